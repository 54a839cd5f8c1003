/- What guichetlaw16.MoneyRight's configuration of few numbers is in memory, and that it stays one whatever the switch stores. -/
import Derived.Test.YtjheabcffkbfkaaDoorX0
namespace Go.Proofs.YtjheabcffkbfkaaDoor.X
open Go.RowKit Go.Proofs.YtjheabcffkbfkaaDoorW.PrintWords Go.Proofs.YtjheabcffkbfkaaDoorW.PrintLast Go.Proofs.YtjheabcffkbfkaaDoorW.PrintMore
set_option linter.unusedVariables false
set_option linter.unusedSimpArgs false
def cells31 (x : S31) : List Value := [.int .i64 x.f0.f0, .int .i64 x.f0.f1, .int .i64 x.f0.f2, .int .i64 x.f0.f3, .int .i64 x.f1.f0, .int .i64 x.f1.f1, .int .i64 x.f1.f2, .int .i64 x.f1.f3, .int .i64 x.f2.f0, .int .i64 x.f2.f1, .int .i64 x.f2.f2, .int .i64 x.f2.f3, .int .i64 x.f3.f0, .int .i64 x.f3.f1, .int .i64 x.f3.f2, .int .i64 x.f3.f3]
theorem put31 (W : World) (base : Nat) (x : S31) (u : Int) (j : Nat) (hj : j < 16) : ∃ x' : S31, k31.M W base (fun _ => False) x' ((cells31 x).take j ++ [.int .i64 u] ++ (cells31 x).drop (j + 1)) := by
  have h : j = 0 ∨ j = 1 ∨ j = 2 ∨ j = 3 ∨ j = 4 ∨ j = 5 ∨ j = 6 ∨ j = 7 ∨ j = 8 ∨ j = 9 ∨ j = 10 ∨ j = 11 ∨ j = 12 ∨ j = 13 ∨ j = 14 ∨ j = 15 := by omega
  rcases h with rfl | rfl | rfl | rfl | rfl | rfl | rfl | rfl | rfl | rfl | rfl | rfl | rfl | rfl | rfl | rfl
  · exact ⟨(⟨⟨u, x.f0.f1, x.f0.f2, x.f0.f3⟩, ⟨x.f1.f0, x.f1.f1, x.f1.f2, x.f1.f3⟩, ⟨x.f2.f0, x.f2.f1, x.f2.f2, x.f2.f3⟩, ⟨x.f3.f0, x.f3.f1, x.f3.f2, x.f3.f3⟩⟩ : S31), k31_mkM W base (fun _ => False) (⟨⟨u, x.f0.f1, x.f0.f2, x.f0.f3⟩, ⟨x.f1.f0, x.f1.f1, x.f1.f2, x.f1.f3⟩, ⟨x.f2.f0, x.f2.f1, x.f2.f2, x.f2.f3⟩, ⟨x.f3.f0, x.f3.f1, x.f3.f2, x.f3.f3⟩⟩ : S31)⟩
  · exact ⟨(⟨⟨x.f0.f0, u, x.f0.f2, x.f0.f3⟩, ⟨x.f1.f0, x.f1.f1, x.f1.f2, x.f1.f3⟩, ⟨x.f2.f0, x.f2.f1, x.f2.f2, x.f2.f3⟩, ⟨x.f3.f0, x.f3.f1, x.f3.f2, x.f3.f3⟩⟩ : S31), k31_mkM W base (fun _ => False) (⟨⟨x.f0.f0, u, x.f0.f2, x.f0.f3⟩, ⟨x.f1.f0, x.f1.f1, x.f1.f2, x.f1.f3⟩, ⟨x.f2.f0, x.f2.f1, x.f2.f2, x.f2.f3⟩, ⟨x.f3.f0, x.f3.f1, x.f3.f2, x.f3.f3⟩⟩ : S31)⟩
  · exact ⟨(⟨⟨x.f0.f0, x.f0.f1, u, x.f0.f3⟩, ⟨x.f1.f0, x.f1.f1, x.f1.f2, x.f1.f3⟩, ⟨x.f2.f0, x.f2.f1, x.f2.f2, x.f2.f3⟩, ⟨x.f3.f0, x.f3.f1, x.f3.f2, x.f3.f3⟩⟩ : S31), k31_mkM W base (fun _ => False) (⟨⟨x.f0.f0, x.f0.f1, u, x.f0.f3⟩, ⟨x.f1.f0, x.f1.f1, x.f1.f2, x.f1.f3⟩, ⟨x.f2.f0, x.f2.f1, x.f2.f2, x.f2.f3⟩, ⟨x.f3.f0, x.f3.f1, x.f3.f2, x.f3.f3⟩⟩ : S31)⟩
  · exact ⟨(⟨⟨x.f0.f0, x.f0.f1, x.f0.f2, u⟩, ⟨x.f1.f0, x.f1.f1, x.f1.f2, x.f1.f3⟩, ⟨x.f2.f0, x.f2.f1, x.f2.f2, x.f2.f3⟩, ⟨x.f3.f0, x.f3.f1, x.f3.f2, x.f3.f3⟩⟩ : S31), k31_mkM W base (fun _ => False) (⟨⟨x.f0.f0, x.f0.f1, x.f0.f2, u⟩, ⟨x.f1.f0, x.f1.f1, x.f1.f2, x.f1.f3⟩, ⟨x.f2.f0, x.f2.f1, x.f2.f2, x.f2.f3⟩, ⟨x.f3.f0, x.f3.f1, x.f3.f2, x.f3.f3⟩⟩ : S31)⟩
  · exact ⟨(⟨⟨x.f0.f0, x.f0.f1, x.f0.f2, x.f0.f3⟩, ⟨u, x.f1.f1, x.f1.f2, x.f1.f3⟩, ⟨x.f2.f0, x.f2.f1, x.f2.f2, x.f2.f3⟩, ⟨x.f3.f0, x.f3.f1, x.f3.f2, x.f3.f3⟩⟩ : S31), k31_mkM W base (fun _ => False) (⟨⟨x.f0.f0, x.f0.f1, x.f0.f2, x.f0.f3⟩, ⟨u, x.f1.f1, x.f1.f2, x.f1.f3⟩, ⟨x.f2.f0, x.f2.f1, x.f2.f2, x.f2.f3⟩, ⟨x.f3.f0, x.f3.f1, x.f3.f2, x.f3.f3⟩⟩ : S31)⟩
  · exact ⟨(⟨⟨x.f0.f0, x.f0.f1, x.f0.f2, x.f0.f3⟩, ⟨x.f1.f0, u, x.f1.f2, x.f1.f3⟩, ⟨x.f2.f0, x.f2.f1, x.f2.f2, x.f2.f3⟩, ⟨x.f3.f0, x.f3.f1, x.f3.f2, x.f3.f3⟩⟩ : S31), k31_mkM W base (fun _ => False) (⟨⟨x.f0.f0, x.f0.f1, x.f0.f2, x.f0.f3⟩, ⟨x.f1.f0, u, x.f1.f2, x.f1.f3⟩, ⟨x.f2.f0, x.f2.f1, x.f2.f2, x.f2.f3⟩, ⟨x.f3.f0, x.f3.f1, x.f3.f2, x.f3.f3⟩⟩ : S31)⟩
  · exact ⟨(⟨⟨x.f0.f0, x.f0.f1, x.f0.f2, x.f0.f3⟩, ⟨x.f1.f0, x.f1.f1, u, x.f1.f3⟩, ⟨x.f2.f0, x.f2.f1, x.f2.f2, x.f2.f3⟩, ⟨x.f3.f0, x.f3.f1, x.f3.f2, x.f3.f3⟩⟩ : S31), k31_mkM W base (fun _ => False) (⟨⟨x.f0.f0, x.f0.f1, x.f0.f2, x.f0.f3⟩, ⟨x.f1.f0, x.f1.f1, u, x.f1.f3⟩, ⟨x.f2.f0, x.f2.f1, x.f2.f2, x.f2.f3⟩, ⟨x.f3.f0, x.f3.f1, x.f3.f2, x.f3.f3⟩⟩ : S31)⟩
  · exact ⟨(⟨⟨x.f0.f0, x.f0.f1, x.f0.f2, x.f0.f3⟩, ⟨x.f1.f0, x.f1.f1, x.f1.f2, u⟩, ⟨x.f2.f0, x.f2.f1, x.f2.f2, x.f2.f3⟩, ⟨x.f3.f0, x.f3.f1, x.f3.f2, x.f3.f3⟩⟩ : S31), k31_mkM W base (fun _ => False) (⟨⟨x.f0.f0, x.f0.f1, x.f0.f2, x.f0.f3⟩, ⟨x.f1.f0, x.f1.f1, x.f1.f2, u⟩, ⟨x.f2.f0, x.f2.f1, x.f2.f2, x.f2.f3⟩, ⟨x.f3.f0, x.f3.f1, x.f3.f2, x.f3.f3⟩⟩ : S31)⟩
  · exact ⟨(⟨⟨x.f0.f0, x.f0.f1, x.f0.f2, x.f0.f3⟩, ⟨x.f1.f0, x.f1.f1, x.f1.f2, x.f1.f3⟩, ⟨u, x.f2.f1, x.f2.f2, x.f2.f3⟩, ⟨x.f3.f0, x.f3.f1, x.f3.f2, x.f3.f3⟩⟩ : S31), k31_mkM W base (fun _ => False) (⟨⟨x.f0.f0, x.f0.f1, x.f0.f2, x.f0.f3⟩, ⟨x.f1.f0, x.f1.f1, x.f1.f2, x.f1.f3⟩, ⟨u, x.f2.f1, x.f2.f2, x.f2.f3⟩, ⟨x.f3.f0, x.f3.f1, x.f3.f2, x.f3.f3⟩⟩ : S31)⟩
  · exact ⟨(⟨⟨x.f0.f0, x.f0.f1, x.f0.f2, x.f0.f3⟩, ⟨x.f1.f0, x.f1.f1, x.f1.f2, x.f1.f3⟩, ⟨x.f2.f0, u, x.f2.f2, x.f2.f3⟩, ⟨x.f3.f0, x.f3.f1, x.f3.f2, x.f3.f3⟩⟩ : S31), k31_mkM W base (fun _ => False) (⟨⟨x.f0.f0, x.f0.f1, x.f0.f2, x.f0.f3⟩, ⟨x.f1.f0, x.f1.f1, x.f1.f2, x.f1.f3⟩, ⟨x.f2.f0, u, x.f2.f2, x.f2.f3⟩, ⟨x.f3.f0, x.f3.f1, x.f3.f2, x.f3.f3⟩⟩ : S31)⟩
  · exact ⟨(⟨⟨x.f0.f0, x.f0.f1, x.f0.f2, x.f0.f3⟩, ⟨x.f1.f0, x.f1.f1, x.f1.f2, x.f1.f3⟩, ⟨x.f2.f0, x.f2.f1, u, x.f2.f3⟩, ⟨x.f3.f0, x.f3.f1, x.f3.f2, x.f3.f3⟩⟩ : S31), k31_mkM W base (fun _ => False) (⟨⟨x.f0.f0, x.f0.f1, x.f0.f2, x.f0.f3⟩, ⟨x.f1.f0, x.f1.f1, x.f1.f2, x.f1.f3⟩, ⟨x.f2.f0, x.f2.f1, u, x.f2.f3⟩, ⟨x.f3.f0, x.f3.f1, x.f3.f2, x.f3.f3⟩⟩ : S31)⟩
  · exact ⟨(⟨⟨x.f0.f0, x.f0.f1, x.f0.f2, x.f0.f3⟩, ⟨x.f1.f0, x.f1.f1, x.f1.f2, x.f1.f3⟩, ⟨x.f2.f0, x.f2.f1, x.f2.f2, u⟩, ⟨x.f3.f0, x.f3.f1, x.f3.f2, x.f3.f3⟩⟩ : S31), k31_mkM W base (fun _ => False) (⟨⟨x.f0.f0, x.f0.f1, x.f0.f2, x.f0.f3⟩, ⟨x.f1.f0, x.f1.f1, x.f1.f2, x.f1.f3⟩, ⟨x.f2.f0, x.f2.f1, x.f2.f2, u⟩, ⟨x.f3.f0, x.f3.f1, x.f3.f2, x.f3.f3⟩⟩ : S31)⟩
  · exact ⟨(⟨⟨x.f0.f0, x.f0.f1, x.f0.f2, x.f0.f3⟩, ⟨x.f1.f0, x.f1.f1, x.f1.f2, x.f1.f3⟩, ⟨x.f2.f0, x.f2.f1, x.f2.f2, x.f2.f3⟩, ⟨u, x.f3.f1, x.f3.f2, x.f3.f3⟩⟩ : S31), k31_mkM W base (fun _ => False) (⟨⟨x.f0.f0, x.f0.f1, x.f0.f2, x.f0.f3⟩, ⟨x.f1.f0, x.f1.f1, x.f1.f2, x.f1.f3⟩, ⟨x.f2.f0, x.f2.f1, x.f2.f2, x.f2.f3⟩, ⟨u, x.f3.f1, x.f3.f2, x.f3.f3⟩⟩ : S31)⟩
  · exact ⟨(⟨⟨x.f0.f0, x.f0.f1, x.f0.f2, x.f0.f3⟩, ⟨x.f1.f0, x.f1.f1, x.f1.f2, x.f1.f3⟩, ⟨x.f2.f0, x.f2.f1, x.f2.f2, x.f2.f3⟩, ⟨x.f3.f0, u, x.f3.f2, x.f3.f3⟩⟩ : S31), k31_mkM W base (fun _ => False) (⟨⟨x.f0.f0, x.f0.f1, x.f0.f2, x.f0.f3⟩, ⟨x.f1.f0, x.f1.f1, x.f1.f2, x.f1.f3⟩, ⟨x.f2.f0, x.f2.f1, x.f2.f2, x.f2.f3⟩, ⟨x.f3.f0, u, x.f3.f2, x.f3.f3⟩⟩ : S31)⟩
  · exact ⟨(⟨⟨x.f0.f0, x.f0.f1, x.f0.f2, x.f0.f3⟩, ⟨x.f1.f0, x.f1.f1, x.f1.f2, x.f1.f3⟩, ⟨x.f2.f0, x.f2.f1, x.f2.f2, x.f2.f3⟩, ⟨x.f3.f0, x.f3.f1, u, x.f3.f3⟩⟩ : S31), k31_mkM W base (fun _ => False) (⟨⟨x.f0.f0, x.f0.f1, x.f0.f2, x.f0.f3⟩, ⟨x.f1.f0, x.f1.f1, x.f1.f2, x.f1.f3⟩, ⟨x.f2.f0, x.f2.f1, x.f2.f2, x.f2.f3⟩, ⟨x.f3.f0, x.f3.f1, u, x.f3.f3⟩⟩ : S31)⟩
  · exact ⟨(⟨⟨x.f0.f0, x.f0.f1, x.f0.f2, x.f0.f3⟩, ⟨x.f1.f0, x.f1.f1, x.f1.f2, x.f1.f3⟩, ⟨x.f2.f0, x.f2.f1, x.f2.f2, x.f2.f3⟩, ⟨x.f3.f0, x.f3.f1, x.f3.f2, u⟩⟩ : S31), k31_mkM W base (fun _ => False) (⟨⟨x.f0.f0, x.f0.f1, x.f0.f2, x.f0.f3⟩, ⟨x.f1.f0, x.f1.f1, x.f1.f2, x.f1.f3⟩, ⟨x.f2.f0, x.f2.f1, x.f2.f2, x.f2.f3⟩, ⟨x.f3.f0, x.f3.f1, x.f3.f2, u⟩⟩ : S31)⟩

theorem cells31_at (x : S31) (j : Nat) (hj : j < 16) : ∃ z : Int, (cells31 x)[j]? = some (.int .i64 z) := by
  have h : j = 0 ∨ j = 1 ∨ j = 2 ∨ j = 3 ∨ j = 4 ∨ j = 5 ∨ j = 6 ∨ j = 7 ∨ j = 8 ∨ j = 9 ∨ j = 10 ∨ j = 11 ∨ j = 12 ∨ j = 13 ∨ j = 14 ∨ j = 15 := by omega
  rcases h with rfl | rfl | rfl | rfl | rfl | rfl | rfl | rfl | rfl | rfl | rfl | rfl | rfl | rfl | rfl | rfl <;> exact ⟨_, rfl⟩
theorem tmod_nat (k : Int) (h : 0 ≤ k) (n : Nat) (hn : 0 < n) : ∃ r : Nat, r < n ∧ k.tmod n = (r : Int) := by
  obtain ⟨a, rfl⟩ := Int.eq_ofNat_of_zero_le h
  exact ⟨a % n, Nat.mod_lt _ hn, rfl⟩
def Own (w : World) (cg : Array Value) (g gc : Nat) (v0 v1 v2 : Value) (l0 : List S31) (l1 : List ByteArray) (l2 : List Int) (lo hi : Int) (W : World) : Prop :=
  W.heap[gc]? = some (.cells #[v0, v1, v2, .int .i64 lo, .int .i64 hi] 26 (0, 0)) ∧ w.heap.size ≤ gc ∧ g ≠ gc ∧ W.heap[g]? = some (.cells cg 26 (0, 0)) ∧ Below w.heap.size w W ∧
    k31.R 31 W w.heap.size (fun _ => True) v0 l0 ∧ Kd.string.R 9 W w.heap.size (fun _ => True) v1 l1 ∧ (Kd.int .i64).R 2 W w.heap.size (fun _ => True) v2 l2
section
variable {w W w1 : World} {cg : Array Value} {g gc : Nat} {v0 v1 v2 : Value} {l0 : List S31} {l1 : List ByteArray} {l2 : List Int} {lo hi : Int}
theorem Own.drewN (h : Own w cg g gc v0 v1 v2 l0 l1 l2 lo hi W) (n : Nat) : Own w cg g gc v0 v1 v2 l0 l1 l2 lo hi (W.drewN n) := by
  obtain ⟨hk, hw, hg, hK, hb, h0, h1, h2⟩ := h
  exact ⟨blk_drewN hk n, hw, hg, blk_drewN hK n, pw_below_drewN hb n, Kd.R_drewN h0 n, Kd.R_drewN h1 n, Kd.R_drewN h2 n⟩
theorem Own.drew (h : Own w cg g gc v0 v1 v2 l0 l1 l2 lo hi W) : Own w cg g gc v0 v1 v2 l0 l1 l2 lo hi W.drew := by
  obtain ⟨hk, hw, hg, hK, hb, h0, h1, h2⟩ := h
  exact ⟨blk_drew hk, hw, hg, blk_drew hK, hb.drew, Kd.R_drew h0, Kd.R_drew h1, Kd.R_drew h2⟩
theorem Own.setLo (h : Own w cg g gc v0 v1 v2 l0 l1 l2 lo hi W) (v : Int) : Own w cg g gc v0 v1 v2 l0 l1 l2 v hi (W.setCell ⟨gc, 3, none⟩ (.int .i64 v)) := by
  obtain ⟨hk, hw, hg, hK, hb, h0, h1, h2⟩ := h
  exact ⟨blk_set hk 3 _, hw, hg, blk_far hK (p := ⟨gc, 3, none⟩) hg _, below_set hb hw, Kd.R_set h0 hk (by decide) _ _, Kd.R_set h1 hk (by decide) _ _, Kd.R_set h2 hk (by decide) _ _⟩
theorem Own.setHi (h : Own w cg g gc v0 v1 v2 l0 l1 l2 lo hi W) (v : Int) : Own w cg g gc v0 v1 v2 l0 l1 l2 lo v (W.setCell ⟨gc, 4, none⟩ (.int .i64 v)) := by
  obtain ⟨hk, hw, hg, hK, hb, h0, h1, h2⟩ := h
  exact ⟨blk_set hk 4 _, hw, hg, blk_far hK (p := ⟨gc, 4, none⟩) hg _, below_set hb hw, Kd.R_set h0 hk (by decide) _ _, Kd.R_set h1 hk (by decide) _ _, Kd.R_set h2 hk (by decide) _ _⟩
/-- Another row of terminals has been stored. -/
theorem Own.terms {u : Value} {l : List S31} (h : Own w cg g gc v0 v1 v2 l0 l1 l2 lo hi W) (hu : k31.R 31 W w.heap.size (fun _ => True) u l) : Own w cg g gc u v1 v2 l l1 l2 lo hi (W.setCell ⟨gc, 0, none⟩ u) := by
  obtain ⟨hk, hw, hg, hK, hb, h0, h1, h2⟩ := h
  exact ⟨blk_set hk 0 _, hw, hg, blk_far hK (p := ⟨gc, 0, none⟩) hg _, below_set hb hw, Kd.R_set hu hk (by decide) _ _, Kd.R_set h1 hk (by decide) _ _, Kd.R_set h2 hk (by decide) _ _⟩
/-- Only the row of terminals' own block has been written (or left). -/
theorem Own.grown (h : Own w cg g gc v0 v1 v2 l0 l1 l2 lo hi W) (hgr : W.grownBy w1 v0.ownBlock) (hb1 : Below w.heap.size w w1) : w1.heap[gc]? = some (.cells #[v0, v1, v2, .int .i64 lo, .int .i64 hi] 26 (0, 0)) ∧ w.heap.size ≤ gc ∧ g ≠ gc ∧ w1.heap[g]? = some (.cells cg 26 (0, 0)) ∧ Below w.heap.size w w1 ∧ Kd.string.R 9 w1 w.heap.size (fun _ => True) v1 l1 ∧ (Kd.int .i64).R 2 w1 w.heap.size (fun _ => True) v2 l2 := by
  obtain ⟨hk, hw, hg, hK, hb, h0, h1, h2⟩ := h
  exact ⟨blk_grown hk hgr (Kd.R_ne h0 hk (by decide)), hw, hg, blk_grown hK hgr (Kd.R_ne h0 hK (by decide)), hb1, Kd.R_over' h1 (Kd.R_typed h0) (by decide) hgr, Kd.R_over' h2 (Kd.R_typed h0) (by decide) hgr⟩
theorem Own.row0 (h : Own w cg g gc v0 v1 v2 l0 l1 l2 lo hi W) (hl : 0 < l0.length) : ∃ (ad : Nat) (c : Nat), v0 = .slice (some ⟨ad, 0, none⟩) l0.length c ∧ l0.length ≤ c ∧ w.heap.size ≤ ad ∧ ad < W.heap.size ∧ ∃ cells : Array Value, W.heap[ad]? = some (.cells cells 31 (0, 0)) ∧ ∀ j u, (cells31 (rd_T31 l0 0))[j]? = some u → W.cell? ⟨ad, j, none⟩ = some u := by
  obtain ⟨hk, hw, hg, hK, hb, h0, h1, h2⟩ := h
  obtain ⟨inner, ho⟩ := Kd.R_own h0
  rcases ho.2 with ⟨_, hz⟩ | ⟨ad, c, cur, rfl, hba, hc, hlc, _, _, _⟩
  · omega
  · obtain ⟨_, _, hC⟩ := Kd.R_reads' h0
    obtain ⟨a', cs, e, _, hKc, hcs⟩ := Kd.C_get hC z31 0 (by omega) (by omega)
    injection e with e
    subst e
    obtain rfl := k31_open hKc
    refine ⟨ad, c, rfl, hlc, hba, blk_lt hc, cur, hc, fun j u hj => ?_⟩
    have := hcs j u hj
    by_cases hz : j = 0
    · subst hz
      simpa [Addr.add, k31] using this
    · simpa [Addr.add, k31, hz] using this
theorem Own.cass (h : Own w cg g gc v0 v1 v2 l0 l1 l2 lo hi W) {ad n c : Nat} (hv : v0 = .slice (some ⟨ad, 0, none⟩) n c) (hn : 0 < n) (j : Nat) (hj : j < 16) (u : Int) : ∃ x', Own w cg g gc v0 v1 v2 (l0.set 0 x') l1 l2 lo hi (W.setCell ⟨ad, j, none⟩ (.int .i64 u)) := by
  have hO := h
  obtain ⟨hk, hw, hg, hK, hb, h0, h1, h2⟩ := h
  subst hv
  obtain ⟨hnl, _, hC⟩ := Kd.R_reads' h0
  obtain ⟨a', cs, e, _, hKc, hcs⟩ := Kd.C_get hC z31 0 (by omega) (by omega)
  injection e with e
  subst e
  obtain rfl := k31_open hKc
  obtain ⟨x', hx'⟩ := put31 W w.heap.size (rd_T31 l0 0) u j hj
  obtain ⟨hR, hgr⟩ := Kd.R_seg h0 0 (by omega) (by omega) (c := cells31 (rd_T31 l0 0)) (seg := [.int .i64 u]) (j := j) (x' := x') (okp := fun _ => False) rfl (fun j u hj => by have := hcs j u hj; by_cases hz : j = 0 <;> simpa [Addr.add, k31, hz] using this) (by show j + 1 ≤ 16; omega) hx' (fun _ h => h.elim)
  have e1 : W.setCells ad ((0 : Int).toNat * k31.sz + j) [.int .i64 u] = W.setCell ⟨ad, j, none⟩ (.int .i64 u) := by
    show W.setCell ⟨ad, (0 : Int).toNat * k31.sz + j, none⟩ (.int .i64 u) = _
    simp
  rw [e1] at hR hgr
  have hwa : w.heap.size ≤ ad := Kd.R_base h0 ad rfl
  obtain ⟨k1, k2, k3, k4, k5, k6, k7⟩ := hO.grown hgr (below_set hb hwa)
  exact ⟨x', k1, k2, k3, k4, k5, hR, k6, k7⟩
theorem Own.row1 (h : Own w cg g gc v0 v1 v2 l0 l1 l2 lo hi W) (hl : 0 < l1.length) : ∃ (ad : Nat) (c : Nat), v1 = .slice (some ⟨ad, 0, none⟩) l1.length c ∧ l1.length ≤ c ∧ w.heap.size ≤ ad ∧ ∀ i : Int, 0 ≤ i → i < l1.length → W.cell? ⟨ad, i.toNat, none⟩ = some (.string (rdOf ByteArray.empty l1 i)) ∧ W.frozen? ⟨ad, i.toNat, none⟩ = false := by
  obtain ⟨hk, hw, hg, hK, hb, h0, h1, h2⟩ := h
  obtain ⟨inner, ho⟩ := Kd.R_own h1
  rcases ho.2 with ⟨_, hz⟩ | ⟨ad, c, cur, rfl, hba, hc, hlc, _, _, _⟩
  · omega
  · exact ⟨ad, c, rfl, hlc, hba, fun i i0 i1 => Kd.R_cell ByteArray.empty h1 i i0 i1⟩
theorem Own.row2 (h : Own w cg g gc v0 v1 v2 l0 l1 l2 lo hi W) (hl : 0 < l2.length) : ∃ (ad : Nat) (c : Nat), v2 = .slice (some ⟨ad, 0, none⟩) l2.length c ∧ l2.length ≤ c ∧ w.heap.size ≤ ad ∧ ∀ i : Int, 0 ≤ i → i < l2.length → W.cell? ⟨ad, i.toNat, none⟩ = some (.int .i64 (rdOf 0 l2 i)) ∧ W.frozen? ⟨ad, i.toNat, none⟩ = false := by
  obtain ⟨hk, hw, hg, hK, hb, h0, h1, h2⟩ := h
  obtain ⟨inner, ho⟩ := Kd.R_own h2
  rcases ho.2 with ⟨_, hz⟩ | ⟨ad, c, cur, rfl, hba, hc, hlc, _, _, _⟩
  · omega
  · exact ⟨ad, c, rfl, hlc, hba, fun i i0 i1 => Kd.R_cell 0 h2 i i0 i1⟩
theorem Own.pan (h : Own w cg g gc v0 v1 v2 l0 l1 l2 lo hi W) {ad n c : Nat} (hv : v1 = .slice (some ⟨ad, 0, none⟩) n c) (i : Int) (u : ByteArray) : Own w cg g gc v0 v1 v2 l0 (l1.set i.toNat u) l2 lo hi (W.setCell ⟨ad, i.toNat, none⟩ (.string u)) := by
  obtain ⟨hk, hw, hg, hK, hb, h0, h1, h2⟩ := h
  subst hv
  obtain ⟨hR, hgr⟩ := Kd.R_putg h1 i u
  have hwa : w.heap.size ≤ ad := Kd.R_base h1 ad rfl
  exact ⟨blk_grown hk hgr (Kd.R_ne h1 hk (by decide)), hw, hg, blk_grown hK hgr (Kd.R_ne h1 hK (by decide)), below_set hb hwa, Kd.R_over' (v := Value.slice (some ⟨ad, 0, none⟩) n c) h0 (Kd.R_typed h1) (by decide) hgr, hR, Kd.R_over' (v := Value.slice (some ⟨ad, 0, none⟩) n c) h2 (Kd.R_typed h1) (by decide) hgr⟩
theorem Own.fund (h : Own w cg g gc v0 v1 v2 l0 l1 l2 lo hi W) {ad n c : Nat} (hv : v2 = .slice (some ⟨ad, 0, none⟩) n c) (i : Int) (u : Int) : Own w cg g gc v0 v1 v2 l0 l1 (l2.set i.toNat u) lo hi (W.setCell ⟨ad, i.toNat, none⟩ (.int .i64 u)) := by
  obtain ⟨hk, hw, hg, hK, hb, h0, h1, h2⟩ := h
  subst hv
  obtain ⟨hR, hgr⟩ := Kd.R_putg h2 i u
  have hwa : w.heap.size ≤ ad := Kd.R_base h2 ad rfl
  exact ⟨blk_grown hk hgr (Kd.R_ne h2 hk (by decide)), hw, hg, blk_grown hK hgr (Kd.R_ne h2 hK (by decide)), below_set hb hwa, Kd.R_over' (v := Value.slice (some ⟨ad, 0, none⟩) n c) h0 (Kd.R_typed h2) (by decide) hgr, Kd.R_over' (v := Value.slice (some ⟨ad, 0, none⟩) n c) h1 (Kd.R_typed h2) (by decide) hgr, hR⟩

/-- What the walk's second part needs of it. -/
def Rel (w : World) (cg : Array Value) (g gc : Nat) (wx : World) : Prop :=
  ∃ (A0 : Option Addr) (d0 : Nat) (l0 : List S31) (A1 : Option Addr) (d1 : Nat) (l1 : List ByteArray) (A2 : Option Addr) (d2 : Nat) (l2 : List Int) (lo hi : Int), Aside0 (wx.heap[gc]? = some (.cells #[.slice A0 l0.length d0, .slice A1 l1.length d1, .slice A2 l2.length d2, .int .i64 lo, .int .i64 hi] 26 (0, 0))) ∧ Aside0 (l0.length ≤ d0 ∧ l1.length ≤ d1 ∧ l2.length ≤ d2 ∧ l0.length ≤ 20 ∧ l1.length ≤ 70 ∧ l2.length ≤ 70) ∧ Aside0 (Kd.C k31 wx A0 l0.length l0) ∧ Aside0 (Kd.C Kd.string wx A1 l1.length l1) ∧ Aside0 (Kd.C (Kd.int .i64) wx A2 l2.length l2) ∧ Aside0 (wx.heap[g]? = some (.cells cg 26 (0, 0))) ∧ Aside0 (Below w.heap.size w wx)
theorem Own.rel (h : Own w cg g gc v0 v1 v2 l0 l1 l2 lo hi W) (n0 : l0.length ≤ 20) (n1 : l1.length ≤ 70) (n2 : l2.length ≤ 70) : Rel w cg g gc W := by
  obtain ⟨hk, hw, hg, hK, hb, h0, h1, h2⟩ := h
  obtain ⟨A0, c0, rfl, e0, r0⟩ := Kd.R_reads h0
  obtain ⟨A1, c1, rfl, e1, r1⟩ := Kd.R_reads h1
  obtain ⟨A2, c2, rfl, e2, r2⟩ := Kd.R_reads h2
  exact ⟨A0, c0, l0, A1, c1, l1, A2, c2, l2, lo, hi, ⟨hk⟩, ⟨⟨e0, e1, e2, n0, n1, n2⟩⟩, ⟨r0⟩, ⟨r1⟩, ⟨r2⟩, ⟨hK⟩, ⟨hb⟩⟩
theorem Own.append {u : Value} {l : List S31} (h : Own w cg g gc v0 v1 v2 l0 l1 l2 lo hi W) (hgr : W.grownBy w1 v0.ownBlock) (hb1 : Below w.heap.size w w1) (hu : k31.R 31 w1 w.heap.size (fun _ => True) u l) : Own w cg g gc u v1 v2 l l1 l2 lo hi (w1.setCell ⟨gc, 0, none⟩ u) := by
  obtain ⟨hk, hw, hg, hK, hb, h1, h2⟩ := h.grown hgr hb1
  exact ⟨blk_set hk 0 _, hw, hg, blk_far hK (p := ⟨gc, 0, none⟩) hg _, below_set hb hw, Kd.R_set hu hk (by decide) _ _, Kd.R_set h1 hk (by decide) _ _, Kd.R_set h2 hk (by decide) _ _⟩
theorem Own.alloc (h : Own w cg g gc v0 v1 v2 l0 l1 l2 lo hi W) (o : Obj) : Own w cg g gc v0 v1 v2 l0 l1 l2 lo hi (W.alloc o) := by
  obtain ⟨hk, hw, hg, hK, hb, h0, h1, h2⟩ := h
  exact ⟨blk_alloc hk o, hw, hg, blk_alloc hK o, below_alloc hb o, Kd.R_alloc h0 o, Kd.R_alloc h1 o, Kd.R_alloc h2 o⟩
theorem cell_alloc {W : World} {a : Addr} {v : Value} (h : W.cell? a = some v) (o : Obj) : (W.alloc o).cell? a = some v := ((below_alloc (Below.refl _ _) o).cell (World.block_lt_of_cell? W _ h)).trans h
theorem Rel.drewN (h : Rel w cg g gc W) (n : Nat) : Rel w cg g gc (W.drewN n) := by
  obtain ⟨A0, c0, l0, A1, c1, l1, A2, c2, l2, lo, hi, hk, hl, r0, r1, r2, hK, hb⟩ := h
  exact ⟨A0, c0, l0, A1, c1, l1, A2, c2, l2, lo, hi, ⟨blk_drewN hk.out n⟩, hl, ⟨r0.out⟩, ⟨r1.out⟩, ⟨r2.out⟩, ⟨blk_drewN hK.out n⟩, ⟨pw_below_drewN hb.out n⟩⟩
theorem Own.cassRel (h : Own w cg g gc v0 v1 v2 l0 l1 l2 lo hi W) {ad n c : Nat} (hv : v0 = .slice (some ⟨ad, 0, none⟩) n c) (hn : 0 < n) {j : Nat} (hj : j < 16) (u : Int) (n0 : l0.length ≤ 20) (n1 : l1.length ≤ 70) (n2 : l2.length ≤ 70) : Rel w cg g gc (W.setCell ⟨ad, j, none⟩ (.int .i64 u)) := by
  obtain ⟨x', hx'⟩ := h.cass hv hn j hj u
  exact hx'.rel (by rw [List.length_set]; exact n0) n1 n2
theorem Own.panRel (h : Own w cg g gc v0 v1 v2 l0 l1 l2 lo hi W) {ad n c : Nat} (hv : v1 = .slice (some ⟨ad, 0, none⟩) n c) {j : Nat} (u : ByteArray) (n0 : l0.length ≤ 20) (n1 : l1.length ≤ 70) (n2 : l2.length ≤ 70) : Rel w cg g gc (W.setCell ⟨ad, j, none⟩ (.string u)) :=
  (h.pan hv (j : Int) u).rel n0 (by rw [List.length_set]; exact n1) n2
theorem Own.fundRel (h : Own w cg g gc v0 v1 v2 l0 l1 l2 lo hi W) {ad n c : Nat} (hv : v2 = .slice (some ⟨ad, 0, none⟩) n c) {j : Nat} (u : Int) (n0 : l0.length ≤ 20) (n1 : l1.length ≤ 70) (n2 : l2.length ≤ 70) : Rel w cg g gc (W.setCell ⟨ad, j, none⟩ (.int .i64 u)) :=
  (h.fund hv (j : Int) u).rel n0 n1 (by rw [List.length_set]; exact n2)
/-- Funds = Funds[1:]. -/
theorem Own.tail (h : Own w cg g gc v0 v1 v2 l0 l1 l2 lo hi W) (n0 : l0.length ≤ 20) (n1 : l1.length ≤ 70) (n2 : l2.length ≤ 70) {A2 : Option Addr} {n c : Nat} (hv : v2 = .slice A2 n c) (h2l : 1 ≤ l2.length) {B : Option Addr} {m d : Nat} (hB : B = if c = 1 then A2 else A2.map (·.add 1)) (hm : m = l2.length - 1) (hd : d = c - 1) :
    Rel w cg g gc (W.setCell ⟨gc, 2, none⟩ (.slice B m d)) := by
  obtain ⟨hk, hw, hg, hK, hb, h0, h1, h2⟩ := h
  obtain ⟨A0, c0, rfl, e0, r0⟩ := Kd.R_reads (Kd.R_set h0 hk (by decide) 2 (.slice B m d))
  obtain ⟨A1, c1, rfl, e1, r1⟩ := Kd.R_reads (Kd.R_set h1 hk (by decide) 2 (.slice B m d))
  subst hv
  obtain ⟨en, ec, r2⟩ := Kd.R_reads' (Kd.R_set h2 hk (by decide) 2 (.slice B m d))
  have r3 := Kd.C_drop r2 (m := 1) (c := c) h2l (by omega)
  have el : (l2.drop 1).length = l2.length - 1 := List.length_drop
  have r3' : Kd.C (Kd.int .i64) (W.setCell ⟨gc, 2, none⟩ (.slice B m d)) B (l2.drop 1).length (l2.drop 1) := by rw [show B = (if c = 1 then A2 else A2.map (·.add (1 * (Kd.int .i64).sz))) from hB]; rw [show B = (if c = 1 then A2 else A2.map (·.add (1 * (Kd.int .i64).sz))) from hB] at r3; exact r3
  refine ⟨A0, c0, l0, A1, c1, l1, B, d, l2.drop 1, lo, hi, ⟨?_⟩, ⟨⟨e0, e1, by omega, n0, n1, by omega⟩⟩, ⟨r0⟩, ⟨r1⟩, ⟨?_⟩, ⟨blk_far hK (p := ⟨gc, 2, none⟩) hg _⟩, ⟨below_set hb hw⟩⟩
  · rw [el, ← hm]
    exact blk_set hk 2 _
  · exact r3'
end
end Go.Proofs.YtjheabcffkbfkaaDoor.X
