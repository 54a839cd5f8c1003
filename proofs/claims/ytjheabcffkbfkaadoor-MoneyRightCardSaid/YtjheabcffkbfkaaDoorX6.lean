-- Written by a program of this session (wip/xprint.py) for this claim.
import Derived.Test.YtjheabcffkbfkaaDoorX0
import Derived.Test.YtjheabcffkbfkaaDoorX5
namespace Go.Proofs.YtjheabcffkbfkaaDoor.X
open Go.RowKit Go.Proofs.YtjheabcffkbfkaaDoorW.PrintWords Go.Proofs.YtjheabcffkbfkaaDoorW.PrintLast Go.Proofs.YtjheabcffkbfkaaDoorW.PrintMore
attribute [local go_sem] max2_int min2_int max_two min_two max_three min_three max_four min_four   -- for this text's walks alone
set_option linter.unusedVariables false
set_option linter.unusedSimpArgs false

/-! ### CfR: function 8 -/
mutual
def CfR.j0 : Nat → Bool → List (S31) → List ByteArray → List Int → Int → Int → Option (Bool)
  | 0, _, _, _, _, _, _ => none
  | k + 1, x43, x164000, x164001, x164002, x164003, x164004 => if x43 = true then (some false) else (CfR.l0 k 0 x164000 x164001 x164002 x164003 x164004)
def CfR.l0 : Nat → Int → List (S31) → List ByteArray → List Int → Int → Int → Option (Bool)
  | 0, _, _, _, _, _, _ => none
  | k + 1, x3, x164000, x164001, x164002, x164003, x164004 => if x3 < (x164000.length : Int) then (CfR.l1 k x3 0 x164000 x164001 x164002 x164003 x164004) else (CfR.l2 k 0 x164000 x164001 x164002 x164003 x164004)
def CfR.l1 : Nat → Int → Int → List (S31) → List ByteArray → List Int → Int → Int → Option (Bool)
  | 0, _, _, _, _, _, _, _ => none
  | k + 1, x3, x4, x164000, x164001, x164002, x164003, x164004 => if x4 < 4 then (if 0 ≤ x3 then (if x3 < (x164000.length : Int) then (if x4 = 0 then (if ((rd_T31 x164000 x3).f0.f0) < 1 then (some false) else (if ((rd_T31 x164000 x3).f0.f0) > 100000 then (some false) else (if ((rd_T31 x164000 x3).f0.f1) < 0 then (some false) else (if ((rd_T31 x164000 x3).f0.f1) > 10000 then (some false) else (if ((rd_T31 x164000 x3).f0.f2) = 0 then (if ((rd_T31 x164000 x3).f0.f3) = 0 then (CfR.l1 k x3 (wrap64 (x4 + 1)) x164000 x164001 x164002 x164003 x164004) else (some false)) else (some false)))))) else (if x4 = 1 then (if ((rd_T31 x164000 x3).f1.f0) < 1 then (some false) else (if ((rd_T31 x164000 x3).f1.f0) > 100000 then (some false) else (if ((rd_T31 x164000 x3).f1.f1) < 0 then (some false) else (if ((rd_T31 x164000 x3).f1.f1) > 10000 then (some false) else (if ((rd_T31 x164000 x3).f1.f2) = 0 then (if ((rd_T31 x164000 x3).f1.f3) = 0 then (CfR.l1 k x3 (wrap64 (x4 + 1)) x164000 x164001 x164002 x164003 x164004) else (some false)) else (some false)))))) else (if x4 = 2 then (if ((rd_T31 x164000 x3).f2.f0) < 1 then (some false) else (if ((rd_T31 x164000 x3).f2.f0) > 100000 then (some false) else (if ((rd_T31 x164000 x3).f2.f1) < 0 then (some false) else (if ((rd_T31 x164000 x3).f2.f1) > 10000 then (some false) else (if ((rd_T31 x164000 x3).f2.f2) = 0 then (if ((rd_T31 x164000 x3).f2.f3) = 0 then (CfR.l1 k x3 (wrap64 (x4 + 1)) x164000 x164001 x164002 x164003 x164004) else (some false)) else (some false)))))) else (if x4 = 3 then (if ((rd_T31 x164000 x3).f3.f0) < 1 then (some false) else (if ((rd_T31 x164000 x3).f3.f0) > 100000 then (some false) else (if ((rd_T31 x164000 x3).f3.f1) < 0 then (some false) else (if ((rd_T31 x164000 x3).f3.f1) > 10000 then (some false) else (if ((rd_T31 x164000 x3).f3.f2) = 0 then (if ((rd_T31 x164000 x3).f3.f3) = 0 then (CfR.l1 k x3 (wrap64 (x4 + 1)) x164000 x164001 x164002 x164003 x164004) else (some false)) else (some false)))))) else (none))))) else (none)) else (none)) else (CfR.l0 k (wrap64 (x3 + 1)) x164000 x164001 x164002 x164003 x164004)
def CfR.l2 : Nat → Int → List (S31) → List ByteArray → List Int → Int → Int → Option (Bool)
  | 0, _, _, _, _, _, _ => none
  | k + 1, x6, x164000, x164001, x164002, x164003, x164004 => if x6 < (x164001.length : Int) then (if 0 ≤ x6 then ((guichetref1_Pan.f k (rdOf ByteArray.empty x164001 x6)).bind fun t170 => (if t170 = true then (if x6 < (x164002.length : Int) then (if (rd x164002 x6) < 0 then (CfR.j4 k x6 true x164000 x164001 x164002 x164003 x164004) else (CfR.j4 k x6 (decide ((rd x164002 x6) > 1000000000000)) x164000 x164001 x164002 x164003 x164004)) else (none)) else (CfR.j4 k x6 true x164000 x164001 x164002 x164003 x164004))) else (none)) else (some true)
def CfR.j4 : Nat → Int → Bool → List (S31) → List ByteArray → List Int → Int → Int → Option (Bool)
  | 0, _, _, _, _, _, _, _ => none
  | k + 1, x6, x119, x164000, x164001, x164002, x164003, x164004 => if x119 = true then (some false) else (CfR.l3 k x6 0 x164000 x164001 x164002 x164003 x164004)
def CfR.l3 : Nat → Int → Int → List (S31) → List ByteArray → List Int → Int → Int → Option (Bool)
  | 0, _, _, _, _, _, _, _ => none
  | k + 1, x6, x7, x164000, x164001, x164002, x164003, x164004 => if x7 < x6 then (if 0 ≤ x7 then (if x7 < (x164001.length : Int) then (if 0 ≤ x6 then (if x6 < (x164001.length : Int) then (if (rdOf ByteArray.empty x164001 x7).toList = (rdOf ByteArray.empty x164001 x6).toList then (some false) else (CfR.l3 k x6 (wrap64 (x7 + 1)) x164000 x164001 x164002 x164003 x164004)) else (none)) else (none)) else (none)) else (none)) else (CfR.l2 k (wrap64 (x6 + 1)) x164000 x164001 x164002 x164003 x164004)
end
def CfR.f (k : Nat) (t0 : List (S31)) (t1 : List ByteArray) (t2 : List Int) (m : Int) (a0_4 : Int) : Option (Bool) := if (t0.length : Int) > 8 then (CfR.j0 k true t0 t1 t2 m a0_4) else (if (t2.length : Int) = (t1.length : Int) then (if (t1.length : Int) > 64 then (CfR.j0 k true t0 t1 t2 m a0_4) else (if m < 1 then (CfR.j0 k true t0 t1 t2 m a0_4) else (if a0_4 > 1000000 then (CfR.j0 k true t0 t1 t2 m a0_4) else (CfR.j0 k (decide (m > a0_4)) t0 t1 t2 m a0_4)))) else (CfR.j0 k true t0 t1 t2 m a0_4))
theorem CfR.mono_l : ∀ k, (∀ y0 y1 y2 y3 y4 y5, LeO (CfR.j0 k y0 y1 y2 y3 y4 y5) (CfR.j0 (k + 1) y0 y1 y2 y3 y4 y5)) ∧ (∀ y0 y1 y2 y3 y4 y5, LeO (CfR.l0 k y0 y1 y2 y3 y4 y5) (CfR.l0 (k + 1) y0 y1 y2 y3 y4 y5)) ∧ (∀ y0 y1 y2 y3 y4 y5 y6, LeO (CfR.l1 k y0 y1 y2 y3 y4 y5 y6) (CfR.l1 (k + 1) y0 y1 y2 y3 y4 y5 y6)) ∧ (∀ y0 y1 y2 y3 y4 y5, LeO (CfR.l2 k y0 y1 y2 y3 y4 y5) (CfR.l2 (k + 1) y0 y1 y2 y3 y4 y5)) ∧ (∀ y0 y1 y2 y3 y4 y5 y6, LeO (CfR.j4 k y0 y1 y2 y3 y4 y5 y6) (CfR.j4 (k + 1) y0 y1 y2 y3 y4 y5 y6)) ∧ (∀ y0 y1 y2 y3 y4 y5 y6, LeO (CfR.l3 k y0 y1 y2 y3 y4 y5 y6) (CfR.l3 (k + 1) y0 y1 y2 y3 y4 y5 y6))
  | 0 => ⟨fun _ _ _ _ _ _ r h => by simp [CfR.j0] at h, fun _ _ _ _ _ _ r h => by simp [CfR.l0] at h, fun _ _ _ _ _ _ _ r h => by simp [CfR.l1] at h, fun _ _ _ _ _ _ r h => by simp [CfR.l2] at h, fun _ _ _ _ _ _ _ r h => by simp [CfR.j4] at h, fun _ _ _ _ _ _ _ r h => by simp [CfR.l3] at h⟩
  | k + 1 => by
    obtain ⟨ih0, ih1, ih2, ih3, ih4, ih5⟩ := CfR.mono_l k
    refine ⟨?_, ?_, ?_, ?_, ?_, ?_⟩
    · intro y0 y1 y2 y3 y4 y5
      unfold CfR.j0
      repeat' first
      | (with_reducible exact ih0 _ _ _ _ _ _)
      | (with_reducible exact ih1 _ _ _ _ _ _)
      | (with_reducible exact ih2 _ _ _ _ _ _ _)
      | (with_reducible exact ih3 _ _ _ _ _ _)
      | (with_reducible exact ih4 _ _ _ _ _ _ _)
      | (with_reducible exact ih5 _ _ _ _ _ _ _)
      | (with_reducible exact guichetref1_Pan.mono _ _)
      | (with_reducible exact LeO.refl _)
      | (with_reducible exact LeO.none _)
      | (with_reducible refine LeO.ite ?_ ?_)
      | (with_reducible refine LeO.bind ?_ (fun _ => ?_))
      | exact ih0 _ _ _ _ _ _
      | exact ih1 _ _ _ _ _ _
      | exact ih2 _ _ _ _ _ _ _
      | exact ih3 _ _ _ _ _ _
      | exact ih4 _ _ _ _ _ _ _
      | exact ih5 _ _ _ _ _ _ _
      | exact guichetref1_Pan.mono _ _
      | exact LeO.none _
      | refine LeO.ite ?_ ?_
      | refine LeO.bind ?_ (fun _ => ?_)
    · intro y0 y1 y2 y3 y4 y5
      unfold CfR.l0
      repeat' first
      | (with_reducible exact ih0 _ _ _ _ _ _)
      | (with_reducible exact ih1 _ _ _ _ _ _)
      | (with_reducible exact ih2 _ _ _ _ _ _ _)
      | (with_reducible exact ih3 _ _ _ _ _ _)
      | (with_reducible exact ih4 _ _ _ _ _ _ _)
      | (with_reducible exact ih5 _ _ _ _ _ _ _)
      | (with_reducible exact guichetref1_Pan.mono _ _)
      | (with_reducible exact LeO.refl _)
      | (with_reducible exact LeO.none _)
      | (with_reducible refine LeO.ite ?_ ?_)
      | (with_reducible refine LeO.bind ?_ (fun _ => ?_))
      | exact ih0 _ _ _ _ _ _
      | exact ih1 _ _ _ _ _ _
      | exact ih2 _ _ _ _ _ _ _
      | exact ih3 _ _ _ _ _ _
      | exact ih4 _ _ _ _ _ _ _
      | exact ih5 _ _ _ _ _ _ _
      | exact guichetref1_Pan.mono _ _
      | exact LeO.none _
      | refine LeO.ite ?_ ?_
      | refine LeO.bind ?_ (fun _ => ?_)
    · intro y0 y1 y2 y3 y4 y5 y6
      unfold CfR.l1
      repeat' first
      | (with_reducible exact ih0 _ _ _ _ _ _)
      | (with_reducible exact ih1 _ _ _ _ _ _)
      | (with_reducible exact ih2 _ _ _ _ _ _ _)
      | (with_reducible exact ih3 _ _ _ _ _ _)
      | (with_reducible exact ih4 _ _ _ _ _ _ _)
      | (with_reducible exact ih5 _ _ _ _ _ _ _)
      | (with_reducible exact guichetref1_Pan.mono _ _)
      | (with_reducible exact LeO.refl _)
      | (with_reducible exact LeO.none _)
      | (with_reducible refine LeO.ite ?_ ?_)
      | (with_reducible refine LeO.bind ?_ (fun _ => ?_))
      | exact ih0 _ _ _ _ _ _
      | exact ih1 _ _ _ _ _ _
      | exact ih2 _ _ _ _ _ _ _
      | exact ih3 _ _ _ _ _ _
      | exact ih4 _ _ _ _ _ _ _
      | exact ih5 _ _ _ _ _ _ _
      | exact guichetref1_Pan.mono _ _
      | exact LeO.none _
      | refine LeO.ite ?_ ?_
      | refine LeO.bind ?_ (fun _ => ?_)
    · intro y0 y1 y2 y3 y4 y5
      unfold CfR.l2
      repeat' first
      | (with_reducible exact ih0 _ _ _ _ _ _)
      | (with_reducible exact ih1 _ _ _ _ _ _)
      | (with_reducible exact ih2 _ _ _ _ _ _ _)
      | (with_reducible exact ih3 _ _ _ _ _ _)
      | (with_reducible exact ih4 _ _ _ _ _ _ _)
      | (with_reducible exact ih5 _ _ _ _ _ _ _)
      | (with_reducible exact guichetref1_Pan.mono _ _)
      | (with_reducible exact LeO.refl _)
      | (with_reducible exact LeO.none _)
      | (with_reducible refine LeO.ite ?_ ?_)
      | (with_reducible refine LeO.bind ?_ (fun _ => ?_))
      | exact ih0 _ _ _ _ _ _
      | exact ih1 _ _ _ _ _ _
      | exact ih2 _ _ _ _ _ _ _
      | exact ih3 _ _ _ _ _ _
      | exact ih4 _ _ _ _ _ _ _
      | exact ih5 _ _ _ _ _ _ _
      | exact guichetref1_Pan.mono _ _
      | exact LeO.none _
      | refine LeO.ite ?_ ?_
      | refine LeO.bind ?_ (fun _ => ?_)
    · intro y0 y1 y2 y3 y4 y5 y6
      unfold CfR.j4
      repeat' first
      | (with_reducible exact ih0 _ _ _ _ _ _)
      | (with_reducible exact ih1 _ _ _ _ _ _)
      | (with_reducible exact ih2 _ _ _ _ _ _ _)
      | (with_reducible exact ih3 _ _ _ _ _ _)
      | (with_reducible exact ih4 _ _ _ _ _ _ _)
      | (with_reducible exact ih5 _ _ _ _ _ _ _)
      | (with_reducible exact guichetref1_Pan.mono _ _)
      | (with_reducible exact LeO.refl _)
      | (with_reducible exact LeO.none _)
      | (with_reducible refine LeO.ite ?_ ?_)
      | (with_reducible refine LeO.bind ?_ (fun _ => ?_))
      | exact ih0 _ _ _ _ _ _
      | exact ih1 _ _ _ _ _ _
      | exact ih2 _ _ _ _ _ _ _
      | exact ih3 _ _ _ _ _ _
      | exact ih4 _ _ _ _ _ _ _
      | exact ih5 _ _ _ _ _ _ _
      | exact guichetref1_Pan.mono _ _
      | exact LeO.none _
      | refine LeO.ite ?_ ?_
      | refine LeO.bind ?_ (fun _ => ?_)
    · intro y0 y1 y2 y3 y4 y5 y6
      unfold CfR.l3
      repeat' first
      | (with_reducible exact ih0 _ _ _ _ _ _)
      | (with_reducible exact ih1 _ _ _ _ _ _)
      | (with_reducible exact ih2 _ _ _ _ _ _ _)
      | (with_reducible exact ih3 _ _ _ _ _ _)
      | (with_reducible exact ih4 _ _ _ _ _ _ _)
      | (with_reducible exact ih5 _ _ _ _ _ _ _)
      | (with_reducible exact guichetref1_Pan.mono _ _)
      | (with_reducible exact LeO.refl _)
      | (with_reducible exact LeO.none _)
      | (with_reducible refine LeO.ite ?_ ?_)
      | (with_reducible refine LeO.bind ?_ (fun _ => ?_))
      | exact ih0 _ _ _ _ _ _
      | exact ih1 _ _ _ _ _ _
      | exact ih2 _ _ _ _ _ _ _
      | exact ih3 _ _ _ _ _ _
      | exact ih4 _ _ _ _ _ _ _
      | exact ih5 _ _ _ _ _ _ _
      | exact guichetref1_Pan.mono _ _
      | exact LeO.none _
      | refine LeO.ite ?_ ?_
      | refine LeO.bind ?_ (fun _ => ?_)
theorem CfR.mono : ∀ a0 a1 a2 a3 a4 k, LeO (CfR.f k a0 a1 a2 a3 a4) (CfR.f (k + 1) a0 a1 a2 a3 a4) := by
  intro a0 a1 a2 a3 a4 k
  obtain ⟨ih0, ih1, ih2, ih3, ih4, ih5⟩ := CfR.mono_l k
  unfold CfR.f
  repeat' first
      | (with_reducible exact ih0 _ _ _ _ _ _)
      | (with_reducible exact ih1 _ _ _ _ _ _)
      | (with_reducible exact ih2 _ _ _ _ _ _ _)
      | (with_reducible exact ih3 _ _ _ _ _ _)
      | (with_reducible exact ih4 _ _ _ _ _ _ _)
      | (with_reducible exact ih5 _ _ _ _ _ _ _)
      | (with_reducible exact guichetref1_Pan.mono _ _)
      | (with_reducible exact LeO.refl _)
      | (with_reducible exact LeO.none _)
      | (with_reducible refine LeO.ite ?_ ?_)
      | (with_reducible refine LeO.bind ?_ (fun _ => ?_))
      | exact ih0 _ _ _ _ _ _
      | exact ih1 _ _ _ _ _ _
      | exact ih2 _ _ _ _ _ _ _
      | exact ih3 _ _ _ _ _ _
      | exact ih4 _ _ _ _ _ _ _
      | exact ih5 _ _ _ _ _ _ _
      | exact guichetref1_Pan.mono _ _
      | exact LeO.none _
      | refine LeO.ite ?_ ?_
      | refine LeO.bind ?_ (fun _ => ?_)
set_option maxHeartbeats 8000000 in
set_option maxRecDepth 100000 in
theorem CfR.calls (k : Nat) (P0 : Option Addr) (c0_0 : Nat) (t0 : List (S31)) (P1 : Option Addr) (c0_1 : Nat) (t1 : List ByteArray) (P2 : Option Addr) (c0_2 : Nat) (t2 : List Int) (m : Int) (a0_4 : Int) (r : Bool) (w : World) (hr0_0 : Kd.C k31 w P0 t0.length t0) (hc0_0 : t0.length ≤ c0_0) (hr0_1 : Kd.C Kd.string w P1 t1.length t1) (hc0_1 : t1.length ≤ c0_1) (hr0_2 : Kd.C (Kd.int .i64) w P2 t2.length t2) (hc0_2 : t2.length ≤ c0_2) (h : CfR.f k t0 t1 t2 m a0_4 = some r) :
    Calls Tryd.prog 8 #[.agg #[.slice P0 t0.length c0_0, .slice P1 t1.length c0_1, .slice P2 t2.length c0_2, .int .i64 m, .int .i64 a0_4]] w fun e w' => e = .returned (.bool r) ∧ Below w.heap.size w w' := by
  have hu26 := Tryd.underlying26
  have hu30 := Tryd.underlying30
  have hu31 := Tryd.underlying31
  have HR0_0 := Aside0.mk hr0_0
  have HC0_0 := Aside0.mk hc0_0
  clear hr0_0 hc0_0
  have HR0_1 := Aside0.mk hr0_1
  have HC0_1 := Aside0.mk hc0_1
  clear hr0_1 hc0_1
  have HR0_2 := Aside0.mk hr0_2
  have HC0_2 := Aside0.mk hc0_2
  clear hr0_2 hc0_2
  have HB := Aside0.mk (Below.refl w.heap.size w)
  have H : (if (t0.length : Int) > 8 then (CfR.j0 k true t0 t1 t2 m a0_4) else (if (t2.length : Int) = (t1.length : Int) then (if (t1.length : Int) > 64 then (CfR.j0 k true t0 t1 t2 m a0_4) else (if m < 1 then (CfR.j0 k true t0 t1 t2 m a0_4) else (if a0_4 > 1000000 then (CfR.j0 k true t0 t1 t2 m a0_4) else (CfR.j0 k (decide (m > a0_4)) t0 t1 t2 m a0_4)))) else (CfR.j0 k true t0 t1 t2 m a0_4))) = some r := h
  clear h
  have HC2 := Aside0.mk H
  clear H
  go_enter Tryd.func8, Tryd.ntmps8
  go_upto_region 1 with (first | ((with_reducible refine gate_dst (N := 1) rfl ?_); (try (refine gate_guard (by rfl) ?_; dsimp only)); refine box_event ?hg (N := 1) ?hd (cs := #[.slice P0 t0.length c0_0, .slice P1 t1.length c0_1, .slice P2 t2.length c0_2, .int .i64 m, .int .i64 a0_4]) (t := 26) ?hr ?_; (case hd => rfl); (case hg => rfl); (case hr => first | (go_simp; done) | (go_simp; rfl)); intro g hg w3 hbox hb; have n0_ := Aside0.mk (below_step (by repeat (first | (with_reducible first | exact HB.out | apply below_alloc | apply pw_below_drewN | apply below_drew1) | exact HB.out)) hb); have n1_ := Aside0.mk (hbox); have n2_ := Aside0.mk ((by rw [hg]; exact (below_size (by repeat (first | (with_reducible first | exact HB.out | apply below_alloc | apply pw_below_drewN | apply below_drew1) | exact HB.out))) : w.heap.size ≤ g)); have n3_ := Aside0.mk ((by rw [hg]; exact (below_size (by repeat (first | (with_reducible first | exact HB.out | apply below_alloc | apply pw_below_drewN | apply below_drew1) | exact HB.out))) : w.heap.size ≤ g)); clear HB; have HB := n0_; have K := n1_; have V := n2_; have E := n3_; clear n0_ n1_ n2_ n3_; clear hb hbox hg))
  repeat (go_quiet (first | ((with_reducible refine gate_dst (N := 1) rfl ?_); (try (refine gate_guard (by rfl) ?_; dsimp only)); refine box_event ?hg (N := 1) ?hd (cs := #[.slice P0 t0.length c0_0, .slice P1 t1.length c0_1, .slice P2 t2.length c0_2, .int .i64 m, .int .i64 a0_4]) (t := 26) ?hr ?_; (case hd => rfl); (case hg => rfl); (case hr => first | (go_simp; done) | (go_simp; rfl)); intro g hg w3 hbox hb; have n0_ := Aside0.mk (below_step (by repeat (first | (with_reducible first | exact HB.out | apply below_alloc | apply pw_below_drewN | apply below_drew1) | exact HB.out)) hb); have n1_ := Aside0.mk (hbox); have n2_ := Aside0.mk ((by rw [hg]; exact (below_size (by repeat (first | (with_reducible first | exact HB.out | apply below_alloc | apply pw_below_drewN | apply below_drew1) | exact HB.out))) : w.heap.size ≤ g)); have n3_ := Aside0.mk ((by rw [hg]; exact (below_size (by repeat (first | (with_reducible first | exact HB.out | apply below_alloc | apply pw_below_drewN | apply below_drew1) | exact HB.out))) : w.heap.size ≤ g)); clear HB; have HB := n0_; have K := n1_; have V := n2_; have E := n3_; clear n0_ n1_ n2_ n3_; clear hb hbox hg)); go_upto_region 1 with (first | ((with_reducible refine gate_dst (N := 1) rfl ?_); (try (refine gate_guard (by rfl) ?_; dsimp only)); refine box_event ?hg (N := 1) ?hd (cs := #[.slice P0 t0.length c0_0, .slice P1 t1.length c0_1, .slice P2 t2.length c0_2, .int .i64 m, .int .i64 a0_4]) (t := 26) ?hr ?_; (case hd => rfl); (case hg => rfl); (case hr => first | (go_simp; done) | (go_simp; rfl)); intro g hg w3 hbox hb; have n0_ := Aside0.mk (below_step (by repeat (first | (with_reducible first | exact HB.out | apply below_alloc | apply pw_below_drewN | apply below_drew1) | exact HB.out)) hb); have n1_ := Aside0.mk (hbox); have n2_ := Aside0.mk ((by rw [hg]; exact (below_size (by repeat (first | (with_reducible first | exact HB.out | apply below_alloc | apply pw_below_drewN | apply below_drew1) | exact HB.out))) : w.heap.size ≤ g)); have n3_ := Aside0.mk ((by rw [hg]; exact (below_size (by repeat (first | (with_reducible first | exact HB.out | apply below_alloc | apply pw_below_drewN | apply below_drew1) | exact HB.out))) : w.heap.size ≤ g)); clear HB; have HB := n0_; have K := n1_; have V := n2_; have E := n3_; clear n0_ n1_ n2_ n3_; clear hb hbox hg)))
  (try simp only [Act.put, List.setIfInBounds_toArray, List.set_cons_zero, List.set_cons_succ])
  go_cut [43] (fun v43 wc => ∃ (kq : Nat) (x43_1 : Bool), v43 = .bool x43_1 ∧ Aside0 (CfR.j0 kq x43_1 t0 t1 t2 m a0_4 = some r) ∧ Aside0 (kq ≤ k) ∧ Aside0 (wc.heap[g]? = some (.cells #[(.slice P0 t0.length c0_0), (.slice P1 t1.length c0_1), (.slice P2 t2.length c0_2), .int .i64 m, .int .i64 a0_4] 26 (0, 0))) ∧ Aside0 (Below w.heap.size w wc))
  case first =>
   have H := HC2.out
   clear HC2
   by_cases c4 : (t0.length : Int) > 8
   ·rw [if_pos c4] at H
    have c4b0 : decide (8 < (t0.length : Int)) = true := decide_eq_true c4
    have c4b1 : decide (8 < t0.length) = true := decide_eq_true (by omega)
    clear c4
    (first | rw [c4b0] | (simp only [i64_w, i32_w]; rw [c4b0]) | skip)
    have H' := Aside0.mk H
    clear H
    have hcz5_0 : w3.cell? ⟨g, 0, none⟩ = some (.slice P0 t0.length c0_0) := (blk_cell K.out 0).trans rfl
    have hcz5_1 : w3.cell? ⟨g, 1, none⟩ = some (.slice P1 t1.length c0_1) := (blk_cell K.out 1).trans rfl
    have hcz5_2 : w3.cell? ⟨g, 2, none⟩ = some (.slice P2 t2.length c0_2) := (blk_cell K.out 2).trans rfl
    have hcz5_3 : w3.cell? ⟨g, 3, none⟩ = some (.int .i64 m) := (blk_cell K.out 3).trans rfl
    have hcz5_4 : w3.cell? ⟨g, 4, none⟩ = some (.int .i64 a0_4) := (blk_cell K.out 4).trans rfl
    have hfz5_0 := blk_frozen K.out 0
    have hfz5_1 := blk_frozen K.out 1
    have hfz5_2 := blk_frozen K.out 2
    have hfz5_3 := blk_frozen K.out 3
    have hfz5_4 := blk_frozen K.out 4
    go_wp2
    go_meet
    case rel => exact ⟨_, (true), (by first | rfl | (simp; done) | (simp [*]; done) | (congr 1; unfold wrap64; omega)), H', ⟨by first | omega | exact Nat.le_refl _⟩, ⟨by (with_reducible repeat (first | refine blk_drewN ?_ _ | refine blk_drew ?_ | refine blk_alloc ?_ _)); exact K.out⟩, ⟨by repeat (first | (with_reducible first | exact HB.out | apply below_alloc | apply pw_below_drewN | apply below_drew1 | refine below_set ?_ E.out) | exact HB.out)⟩⟩
   rw [if_neg c4] at H
   have c4b0 : decide (8 < (t0.length : Int)) = false := decide_eq_false c4
   have c4b1 : decide (8 < t0.length) = false := decide_eq_false (by omega)
   clear c4
   (first | rw [c4b0] | (simp only [i64_w, i32_w]; rw [c4b0]) | skip)
   by_cases c6 : (t2.length : Int) = (t1.length : Int)
   ·rw [if_pos c6] at H
    have c6b0 : ((t2.length : Int) == (t1.length : Int)) = true := beq_iff_eq.mpr c6
    have c6b1 : ((t2.length : Int) != (t1.length : Int)) = false := bne_eq_false_iff_eq.mpr c6
    have c6b2 : (t2.length == t1.length) = true := by first | simpa using c6 | (simp at c6 ⊢; omega)
    clear c6
    by_cases c7 : (t1.length : Int) > 64
    ·rw [if_pos c7] at H
     have c7b0 : decide (64 < (t1.length : Int)) = true := decide_eq_true c7
     have c7b1 : decide (64 < t1.length) = true := decide_eq_true (by omega)
     clear c7
     have H' := Aside0.mk H
     clear H
     have hcz8_0 : w3.cell? ⟨g, 0, none⟩ = some (.slice P0 t0.length c0_0) := (blk_cell K.out 0).trans rfl
     have hcz8_1 : w3.cell? ⟨g, 1, none⟩ = some (.slice P1 t1.length c0_1) := (blk_cell K.out 1).trans rfl
     have hcz8_2 : w3.cell? ⟨g, 2, none⟩ = some (.slice P2 t2.length c0_2) := (blk_cell K.out 2).trans rfl
     have hcz8_3 : w3.cell? ⟨g, 3, none⟩ = some (.int .i64 m) := (blk_cell K.out 3).trans rfl
     have hcz8_4 : w3.cell? ⟨g, 4, none⟩ = some (.int .i64 a0_4) := (blk_cell K.out 4).trans rfl
     have hfz8_0 := blk_frozen K.out 0
     have hfz8_1 := blk_frozen K.out 1
     have hfz8_2 := blk_frozen K.out 2
     have hfz8_3 := blk_frozen K.out 3
     have hfz8_4 := blk_frozen K.out 4
     go_wp2
     go_meet
     case rel => exact ⟨_, (true), (by first | rfl | (simp; done) | (simp [*]; done) | (congr 1; unfold wrap64; omega)), H', ⟨by first | omega | exact Nat.le_refl _⟩, ⟨by (with_reducible repeat (first | refine blk_drewN ?_ _ | refine blk_drew ?_ | refine blk_alloc ?_ _)); exact K.out⟩, ⟨by repeat (first | (with_reducible first | exact HB.out | apply below_alloc | apply pw_below_drewN | apply below_drew1 | refine below_set ?_ E.out) | exact HB.out)⟩⟩
    rw [if_neg c7] at H
    have c7b0 : decide (64 < (t1.length : Int)) = false := decide_eq_false c7
    have c7b1 : decide (64 < t1.length) = false := decide_eq_false (by omega)
    clear c7
    by_cases c9 : m < 1
    ·rw [if_pos c9] at H
     have c9b0 : decide (m < 1) = true := decide_eq_true c9
     clear c9
     have H' := Aside0.mk H
     clear H
     have hcz10_0 : w3.cell? ⟨g, 0, none⟩ = some (.slice P0 t0.length c0_0) := (blk_cell K.out 0).trans rfl
     have hcz10_1 : w3.cell? ⟨g, 1, none⟩ = some (.slice P1 t1.length c0_1) := (blk_cell K.out 1).trans rfl
     have hcz10_2 : w3.cell? ⟨g, 2, none⟩ = some (.slice P2 t2.length c0_2) := (blk_cell K.out 2).trans rfl
     have hcz10_3 : w3.cell? ⟨g, 3, none⟩ = some (.int .i64 m) := (blk_cell K.out 3).trans rfl
     have hcz10_4 : w3.cell? ⟨g, 4, none⟩ = some (.int .i64 a0_4) := (blk_cell K.out 4).trans rfl
     have hfz10_0 := blk_frozen K.out 0
     have hfz10_1 := blk_frozen K.out 1
     have hfz10_2 := blk_frozen K.out 2
     have hfz10_3 := blk_frozen K.out 3
     have hfz10_4 := blk_frozen K.out 4
     go_wp2
     go_meet
     case rel => exact ⟨_, (true), (by first | rfl | (simp; done) | (simp [*]; done) | (congr 1; unfold wrap64; omega)), H', ⟨by first | omega | exact Nat.le_refl _⟩, ⟨by (with_reducible repeat (first | refine blk_drewN ?_ _ | refine blk_drew ?_ | refine blk_alloc ?_ _)); exact K.out⟩, ⟨by repeat (first | (with_reducible first | exact HB.out | apply below_alloc | apply pw_below_drewN | apply below_drew1 | refine below_set ?_ E.out) | exact HB.out)⟩⟩
    rw [if_neg c9] at H
    have c9b0 : decide (m < 1) = false := decide_eq_false c9
    clear c9
    by_cases c11 : a0_4 > 1000000
    ·rw [if_pos c11] at H
     have c11b0 : decide (1000000 < a0_4) = true := decide_eq_true c11
     clear c11
     have H' := Aside0.mk H
     clear H
     have hcz12_0 : w3.cell? ⟨g, 0, none⟩ = some (.slice P0 t0.length c0_0) := (blk_cell K.out 0).trans rfl
     have hcz12_1 : w3.cell? ⟨g, 1, none⟩ = some (.slice P1 t1.length c0_1) := (blk_cell K.out 1).trans rfl
     have hcz12_2 : w3.cell? ⟨g, 2, none⟩ = some (.slice P2 t2.length c0_2) := (blk_cell K.out 2).trans rfl
     have hcz12_3 : w3.cell? ⟨g, 3, none⟩ = some (.int .i64 m) := (blk_cell K.out 3).trans rfl
     have hcz12_4 : w3.cell? ⟨g, 4, none⟩ = some (.int .i64 a0_4) := (blk_cell K.out 4).trans rfl
     have hfz12_0 := blk_frozen K.out 0
     have hfz12_1 := blk_frozen K.out 1
     have hfz12_2 := blk_frozen K.out 2
     have hfz12_3 := blk_frozen K.out 3
     have hfz12_4 := blk_frozen K.out 4
     go_wp2
     go_meet
     case rel => exact ⟨_, (true), (by first | rfl | (simp; done) | (simp [*]; done) | (congr 1; unfold wrap64; omega)), H', ⟨by first | omega | exact Nat.le_refl _⟩, ⟨by (with_reducible repeat (first | refine blk_drewN ?_ _ | refine blk_drew ?_ | refine blk_alloc ?_ _)); exact K.out⟩, ⟨by repeat (first | (with_reducible first | exact HB.out | apply below_alloc | apply pw_below_drewN | apply below_drew1 | refine below_set ?_ E.out) | exact HB.out)⟩⟩
    rw [if_neg c11] at H
    have c11b0 : decide (1000000 < a0_4) = false := decide_eq_false c11
    clear c11
    have H' := Aside0.mk H
    clear H
    have hcz13_0 : w3.cell? ⟨g, 0, none⟩ = some (.slice P0 t0.length c0_0) := (blk_cell K.out 0).trans rfl
    have hcz13_1 : w3.cell? ⟨g, 1, none⟩ = some (.slice P1 t1.length c0_1) := (blk_cell K.out 1).trans rfl
    have hcz13_2 : w3.cell? ⟨g, 2, none⟩ = some (.slice P2 t2.length c0_2) := (blk_cell K.out 2).trans rfl
    have hcz13_3 : w3.cell? ⟨g, 3, none⟩ = some (.int .i64 m) := (blk_cell K.out 3).trans rfl
    have hcz13_4 : w3.cell? ⟨g, 4, none⟩ = some (.int .i64 a0_4) := (blk_cell K.out 4).trans rfl
    have hfz13_0 := blk_frozen K.out 0
    have hfz13_1 := blk_frozen K.out 1
    have hfz13_2 := blk_frozen K.out 2
    have hfz13_3 := blk_frozen K.out 3
    have hfz13_4 := blk_frozen K.out 4
    go_wp2
    go_meet
    case rel => exact ⟨_, (decide (m > a0_4)), (by first | rfl | (simp; done) | (simp [*]; done) | (congr 1; unfold wrap64; omega)), H', ⟨by first | omega | exact Nat.le_refl _⟩, ⟨by (with_reducible repeat (first | refine blk_drewN ?_ _ | refine blk_drew ?_ | refine blk_alloc ?_ _)); exact K.out⟩, ⟨by repeat (first | (with_reducible first | exact HB.out | apply below_alloc | apply pw_below_drewN | apply below_drew1 | refine below_set ?_ E.out) | exact HB.out)⟩⟩
   rw [if_neg c6] at H
   have c6b0 : ((t2.length : Int) == (t1.length : Int)) = false := beq_eq_false_iff_ne.mpr c6
   have c6b1 : ((t2.length : Int) != (t1.length : Int)) = true := bne_iff_ne.mpr c6
   have c6b2 : (t2.length == t1.length) = false := by first | simpa using c6 | (simp at c6 ⊢; omega)
   have H' := Aside0.mk H
   clear H
   have hcz14_0 : w3.cell? ⟨g, 0, none⟩ = some (.slice P0 t0.length c0_0) := (blk_cell K.out 0).trans rfl
   have hcz14_1 : w3.cell? ⟨g, 1, none⟩ = some (.slice P1 t1.length c0_1) := (blk_cell K.out 1).trans rfl
   have hcz14_2 : w3.cell? ⟨g, 2, none⟩ = some (.slice P2 t2.length c0_2) := (blk_cell K.out 2).trans rfl
   have hcz14_3 : w3.cell? ⟨g, 3, none⟩ = some (.int .i64 m) := (blk_cell K.out 3).trans rfl
   have hcz14_4 : w3.cell? ⟨g, 4, none⟩ = some (.int .i64 a0_4) := (blk_cell K.out 4).trans rfl
   have hfz14_0 := blk_frozen K.out 0
   have hfz14_1 := blk_frozen K.out 1
   have hfz14_2 := blk_frozen K.out 2
   have hfz14_3 := blk_frozen K.out 3
   have hfz14_4 := blk_frozen K.out 4
   go_wp2
   go_meet
   case rel => exact ⟨_, (true), (by first | rfl | (simp; done) | (simp [*]; done) | (congr 1; unfold wrap64; omega)), H', ⟨by first | omega | exact Nat.le_refl _⟩, ⟨by (with_reducible repeat (first | refine blk_drewN ?_ _ | refine blk_drew ?_ | refine blk_alloc ?_ _)); exact K.out⟩, ⟨by repeat (first | (with_reducible first | exact HB.out | apply below_alloc | apply pw_below_drewN | apply below_drew1 | refine below_set ?_ E.out) | exact HB.out)⟩⟩
  case rest =>
   clear HC2
   try clear c1
   try clear p2
   try clear c4
   try clear c4b0
   try clear c4b1
   try clear c6
   try clear c6b0
   try clear c6b1
   try clear c6b2
   try clear c7
   try clear c7b0
   try clear c7b1
   try clear c8
   try clear c9
   try clear c9b0
   try clear c11
   try clear c11b0
   try clear hcz10_0
   try clear hcz10_1
   try clear hcz10_2
   try clear hcz10_3
   try clear hcz10_4
   try clear hcz12_0
   try clear hcz12_1
   try clear hcz12_2
   try clear hcz12_3
   try clear hcz12_4
   try clear hcz13_0
   try clear hcz13_1
   try clear hcz13_2
   try clear hcz13_3
   try clear hcz13_4
   try clear hcz14_0
   try clear hcz14_1
   try clear hcz14_2
   try clear hcz14_3
   try clear hcz14_4
   try clear hcz5_0
   try clear hcz5_1
   try clear hcz5_2
   try clear hcz5_3
   try clear hcz5_4
   try clear hcz8_0
   try clear hcz8_1
   try clear hcz8_2
   try clear hcz8_3
   try clear hcz8_4
   try clear hfz10_0
   try clear hfz10_1
   try clear hfz10_2
   try clear hfz10_3
   try clear hfz10_4
   try clear hfz12_0
   try clear hfz12_1
   try clear hfz12_2
   try clear hfz12_3
   try clear hfz12_4
   try clear hfz13_0
   try clear hfz13_1
   try clear hfz13_2
   try clear hfz13_3
   try clear hfz13_4
   try clear hfz14_0
   try clear hfz14_1
   try clear hfz14_2
   try clear hfz14_3
   try clear hfz14_4
   try clear hfz5_0
   try clear hfz5_1
   try clear hfz5_2
   try clear hfz5_3
   try clear hfz5_4
   try clear hfz8_0
   try clear hfz8_1
   try clear hfz8_2
   try clear hfz8_3
   try clear hfz8_4
   obtain ⟨kq, x43_1, rfl, HA, HJ1, K, HB⟩ := hcut
   cases kq with
   | zero => exact absurd HA.out (by simp [CfR.j0])
   | succ kj1 =>
    have H := HA.out
    clear HA
    simp only [CfR.j0] at H
    by_cases c15 : x43_1 = true
    ·subst c15
     have H1 : (some false) = some r := by rw [if_pos rfl] at H; exact H
     clear H
     have H := H1
     clear H1
     obtain rfl := Option.some.inj H
     go_wp2
     go_ret
     exact ⟨by first | rfl | (simp [errW_none, errW_some] <;> rfl) | (simp [*, errW_none, errW_some] <;> rfl), by repeat (first | (with_reducible first | exact HB.out | apply below_alloc | apply pw_below_drewN | apply below_drew1 | refine below_set ?_ E.out) | exact HB.out)⟩
    replace c15 := Bool.eq_false_iff.mpr c15
    subst c15
    have H1 : (CfR.l0 kj1 0 t0 t1 t2 m a0_4) = some r := by rw [if_neg (show ¬ (false = true) by decide)] at H; exact H
    clear H
    have H := H1
    clear H1
    have H' := Aside0.mk H
    clear H
    go_wp2
    go_loopg [3] kj1 (fun kq v3 w' => ∃ (x3_2 : Int), v3 = .int .i64 x3_2 ∧ Aside0 (CfR.l0 kq x3_2 t0 t1 t2 m a0_4 = some r) ∧ Aside0 (kq ≤ kj1) ∧ Aside0 (w'.heap[g]? = some (.cells #[(.slice P0 t0.length c0_0), (.slice P1 t1.length c0_1), (.slice P2 t2.length c0_2), .int .i64 m, .int .i64 a0_4] 26 (0, 0))) ∧ Aside0 (Below w.heap.size w w'))
    case atStart => exact ⟨(0), (by first | rfl | (simp; done) | (simp [*]; done) | (congr 1; unfold wrap64; omega)), H', ⟨Nat.le_refl _⟩, ⟨by (with_reducible repeat (first | refine blk_drewN ?_ _ | refine blk_drew ?_ | refine blk_alloc ?_ _)); exact K.out⟩, ⟨by repeat (first | (with_reducible first | exact HB.out | apply below_alloc | apply pw_below_drewN | apply below_drew1 | refine below_set ?_ E.out) | exact HB.out)⟩⟩
    case round =>
     clear H'
     try clear c1
     try clear p2
     try clear c4
     try clear c4b0
     try clear c4b1
     try clear c6
     try clear c6b0
     try clear c6b1
     try clear c6b2
     try clear c7
     try clear c7b0
     try clear c7b1
     try clear c8
     try clear c9
     try clear c9b0
     try clear c11
     try clear c11b0
     try clear c15
     try clear hcz10_0
     try clear hcz10_1
     try clear hcz10_2
     try clear hcz10_3
     try clear hcz10_4
     try clear hcz12_0
     try clear hcz12_1
     try clear hcz12_2
     try clear hcz12_3
     try clear hcz12_4
     try clear hcz13_0
     try clear hcz13_1
     try clear hcz13_2
     try clear hcz13_3
     try clear hcz13_4
     try clear hcz14_0
     try clear hcz14_1
     try clear hcz14_2
     try clear hcz14_3
     try clear hcz14_4
     try clear hcz5_0
     try clear hcz5_1
     try clear hcz5_2
     try clear hcz5_3
     try clear hcz5_4
     try clear hcz8_0
     try clear hcz8_1
     try clear hcz8_2
     try clear hcz8_3
     try clear hcz8_4
     try clear hfz10_0
     try clear hfz10_1
     try clear hfz10_2
     try clear hfz10_3
     try clear hfz10_4
     try clear hfz12_0
     try clear hfz12_1
     try clear hfz12_2
     try clear hfz12_3
     try clear hfz12_4
     try clear hfz13_0
     try clear hfz13_1
     try clear hfz13_2
     try clear hfz13_3
     try clear hfz13_4
     try clear hfz14_0
     try clear hfz14_1
     try clear hfz14_2
     try clear hfz14_3
     try clear hfz14_4
     try clear hfz5_0
     try clear hfz5_1
     try clear hfz5_2
     try clear hfz5_3
     try clear hfz5_4
     try clear hfz8_0
     try clear hfz8_1
     try clear hfz8_2
     try clear hfz8_3
     try clear hfz8_4
     try clear p2
     obtain ⟨x3_2, rfl, HA, HK2, K, HB⟩ := hrel
     cases gk with
     | zero => exact absurd HA.out (by simp [CfR.l0])
     | succ k2 =>
      have H := HA.out
      clear HA
      simp only [CfR.l0] at H
      by_cases c16 : x3_2 < (t0.length : Int)
      ·rw [if_pos c16] at H
       have c16b0 : decide (x3_2 < (t0.length : Int)) = true := decide_eq_true c16
       clear c16
       have H' := Aside0.mk H
       clear H
       have hcz17_0 : wr.cell? ⟨g, 0, none⟩ = some (.slice P0 t0.length c0_0) := (blk_cell K.out 0).trans rfl
       have hcz17_1 : wr.cell? ⟨g, 1, none⟩ = some (.slice P1 t1.length c0_1) := (blk_cell K.out 1).trans rfl
       have hcz17_2 : wr.cell? ⟨g, 2, none⟩ = some (.slice P2 t2.length c0_2) := (blk_cell K.out 2).trans rfl
       have hcz17_3 : wr.cell? ⟨g, 3, none⟩ = some (.int .i64 m) := (blk_cell K.out 3).trans rfl
       have hcz17_4 : wr.cell? ⟨g, 4, none⟩ = some (.int .i64 a0_4) := (blk_cell K.out 4).trans rfl
       have hfz17_0 := blk_frozen K.out 0
       have hfz17_1 := blk_frozen K.out 1
       have hfz17_2 := blk_frozen K.out 2
       have hfz17_3 := blk_frozen K.out 3
       have hfz17_4 := blk_frozen K.out 4
       go_wp2
       go_loopg [4] k2 (fun kq v4 w' => ∃ (x4_3 : Int), v4 = .int .i64 x4_3 ∧ Aside0 (CfR.l1 kq x3_2 x4_3 t0 t1 t2 m a0_4 = some r) ∧ Aside0 (kq ≤ k2) ∧ Aside0 (w'.heap[g]? = some (.cells #[(.slice P0 t0.length c0_0), (.slice P1 t1.length c0_1), (.slice P2 t2.length c0_2), .int .i64 m, .int .i64 a0_4] 26 (0, 0))) ∧ Aside0 (Below w.heap.size w w'))
       case atStart => exact ⟨(0), (by first | rfl | (simp; done) | (simp [*]; done) | (congr 1; unfold wrap64; omega)), H', ⟨Nat.le_refl _⟩, ⟨by (with_reducible repeat (first | refine blk_drewN ?_ _ | refine blk_drew ?_ | refine blk_alloc ?_ _)); exact K.out⟩, ⟨by repeat (first | (with_reducible first | exact HB.out | apply below_alloc | apply pw_below_drewN | apply below_drew1 | refine below_set ?_ E.out) | exact HB.out)⟩⟩
       case round =>
        clear H'
        try clear c1
        try clear p2
        try clear c4
        try clear c4b0
        try clear c4b1
        try clear c6
        try clear c6b0
        try clear c6b1
        try clear c6b2
        try clear c7
        try clear c7b0
        try clear c7b1
        try clear c8
        try clear c9
        try clear c9b0
        try clear c11
        try clear c11b0
        try clear c15
        try clear c16
        try clear c16b0
        try clear hcz10_0
        try clear hcz10_1
        try clear hcz10_2
        try clear hcz10_3
        try clear hcz10_4
        try clear hcz12_0
        try clear hcz12_1
        try clear hcz12_2
        try clear hcz12_3
        try clear hcz12_4
        try clear hcz13_0
        try clear hcz13_1
        try clear hcz13_2
        try clear hcz13_3
        try clear hcz13_4
        try clear hcz14_0
        try clear hcz14_1
        try clear hcz14_2
        try clear hcz14_3
        try clear hcz14_4
        try clear hcz17_0
        try clear hcz17_1
        try clear hcz17_2
        try clear hcz17_3
        try clear hcz17_4
        try clear hcz5_0
        try clear hcz5_1
        try clear hcz5_2
        try clear hcz5_3
        try clear hcz5_4
        try clear hcz8_0
        try clear hcz8_1
        try clear hcz8_2
        try clear hcz8_3
        try clear hcz8_4
        try clear hfz10_0
        try clear hfz10_1
        try clear hfz10_2
        try clear hfz10_3
        try clear hfz10_4
        try clear hfz12_0
        try clear hfz12_1
        try clear hfz12_2
        try clear hfz12_3
        try clear hfz12_4
        try clear hfz13_0
        try clear hfz13_1
        try clear hfz13_2
        try clear hfz13_3
        try clear hfz13_4
        try clear hfz14_0
        try clear hfz14_1
        try clear hfz14_2
        try clear hfz14_3
        try clear hfz14_4
        try clear hfz17_0
        try clear hfz17_1
        try clear hfz17_2
        try clear hfz17_3
        try clear hfz17_4
        try clear hfz5_0
        try clear hfz5_1
        try clear hfz5_2
        try clear hfz5_3
        try clear hfz5_4
        try clear hfz8_0
        try clear hfz8_1
        try clear hfz8_2
        try clear hfz8_3
        try clear hfz8_4
        try clear p2
        obtain ⟨x4_3, rfl, HA, HK3, K, HB⟩ := hrel
        cases gk with
        | zero => exact absurd HA.out (by simp [CfR.l1])
        | succ k3 =>
         have H := HA.out
         clear HA
         simp only [CfR.l1] at H
         by_cases c18 : x4_3 < 4
         ·rw [if_pos c18] at H
          have c18b0 : decide (x4_3 < 4) = true := decide_eq_true c18
          clear c18
          by_cases c19 : 0 ≤ x3_2
          ·rw [if_pos c19] at H
           have c19b0 : decide (0 ≤ x3_2) = true := decide_eq_true c19
           clear c19
           by_cases c20 : x3_2 < (t0.length : Int)
           ·rw [if_pos c20] at H
            have c20b0 : decide (x3_2 < (t0.length : Int)) = true := decide_eq_true c20
            clear c20
            by_cases c21 : x4_3 = 0
            ·subst c21
             have H1 : (if ((rd_T31 t0 x3_2).f0.f0) < 1 then (some false) else (if ((rd_T31 t0 x3_2).f0.f0) > 100000 then (some false) else (if ((rd_T31 t0 x3_2).f0.f1) < 0 then (some false) else (if ((rd_T31 t0 x3_2).f0.f1) > 10000 then (some false) else (if ((rd_T31 t0 x3_2).f0.f2) = 0 then (if ((rd_T31 t0 x3_2).f0.f3) = 0 then (CfR.l1 k3 x3_2 (wrap64 (0 + 1)) t0 t1 t2 m a0_4) else (some false)) else (some false)))))) = some r := by rw [if_pos rfl] at H; exact H
             clear H
             have H := H1
             clear H1
             by_cases c22 : ((rd_T31 t0 x3_2).f0.f0) < 1
             ·rw [if_pos c22] at H
              have c22b0 : decide (((rd_T31 t0 x3_2).f0.f0) < 1) = true := decide_eq_true c22
              clear c22
              obtain rfl := Option.some.inj H
              have hcz23_0 : wr.cell? ⟨g, 0, none⟩ = some (.slice P0 t0.length c0_0) := (blk_cell K.out 0).trans rfl
              have hcz23_1 : wr.cell? ⟨g, 1, none⟩ = some (.slice P1 t1.length c0_1) := (blk_cell K.out 1).trans rfl
              have hcz23_2 : wr.cell? ⟨g, 2, none⟩ = some (.slice P2 t2.length c0_2) := (blk_cell K.out 2).trans rfl
              have hcz23_3 : wr.cell? ⟨g, 3, none⟩ = some (.int .i64 m) := (blk_cell K.out 3).trans rfl
              have hcz23_4 : wr.cell? ⟨g, 4, none⟩ = some (.int .i64 a0_4) := (blk_cell K.out 4).trans rfl
              have hfz23_0 := blk_frozen K.out 0
              have hfz23_1 := blk_frozen K.out 1
              have hfz23_2 := blk_frozen K.out 2
              have hfz23_3 := blk_frozen K.out 3
              have hfz23_4 := blk_frozen K.out 4
              have p164 : 0 ≤ (x3_2 : Int) := of_decide_eq_true (by first | (with_reducible assumption) | assumption)
              have q164 : x3_2 < (t0.length : Int) := of_decide_eq_true (by first | (with_reducible assumption) | assumption)
              obtain ⟨ad164, e164, hx164_0, hx164_1, hx164_2, hx164_3, hx164_4, hx164_5, hx164_6, hx164_7, hx164_8, hx164_9, hx164_10, hx164_11, hx164_12, hx164_13, hx164_14, hx164_15⟩ := at_T31 HR0_0.out x3_2 p164 q164
              cases e164
              replace hx164_0 := (HB.out.cell (World.block_lt_of_cell? w _ hx164_0)).trans hx164_0
              replace hx164_1 := (HB.out.cell (World.block_lt_of_cell? w _ hx164_1)).trans hx164_1
              replace hx164_2 := (HB.out.cell (World.block_lt_of_cell? w _ hx164_2)).trans hx164_2
              replace hx164_3 := (HB.out.cell (World.block_lt_of_cell? w _ hx164_3)).trans hx164_3
              replace hx164_4 := (HB.out.cell (World.block_lt_of_cell? w _ hx164_4)).trans hx164_4
              replace hx164_5 := (HB.out.cell (World.block_lt_of_cell? w _ hx164_5)).trans hx164_5
              replace hx164_6 := (HB.out.cell (World.block_lt_of_cell? w _ hx164_6)).trans hx164_6
              replace hx164_7 := (HB.out.cell (World.block_lt_of_cell? w _ hx164_7)).trans hx164_7
              replace hx164_8 := (HB.out.cell (World.block_lt_of_cell? w _ hx164_8)).trans hx164_8
              replace hx164_9 := (HB.out.cell (World.block_lt_of_cell? w _ hx164_9)).trans hx164_9
              replace hx164_10 := (HB.out.cell (World.block_lt_of_cell? w _ hx164_10)).trans hx164_10
              replace hx164_11 := (HB.out.cell (World.block_lt_of_cell? w _ hx164_11)).trans hx164_11
              replace hx164_12 := (HB.out.cell (World.block_lt_of_cell? w _ hx164_12)).trans hx164_12
              replace hx164_13 := (HB.out.cell (World.block_lt_of_cell? w _ hx164_13)).trans hx164_13
              replace hx164_14 := (HB.out.cell (World.block_lt_of_cell? w _ hx164_14)).trans hx164_14
              replace hx164_15 := (HB.out.cell (World.block_lt_of_cell? w _ hx164_15)).trans hx164_15
              replace p164 := eq_true p164
              replace q164 := eq_true q164
              go_wp2_with (first | ((with_reducible refine gate_dst (N := 5) rfl ?_); (try (refine gate_guard (by rfl) ?_; dsimp only)); refine box_event ?hg (N := 5) ?hd (cs := #[.int .i64 0, .int .i64 0, .int .i64 0, .int .i64 0]) (t := 30) ?hr ?_; (case hd => rfl); (case hg => rfl); (case hr => first | (go_simp; done) | (go_simp; rfl)); intro gb165 hg w24 hbox hb; have n0_ := Aside0.mk (blk_below (g := g) (o := .cells #[.slice (some ad164) t0.length c0_0, .slice P1 t1.length c0_1, .slice P2 t2.length c0_2, .int .i64 m, .int .i64 a0_4] 26 (0, 0)) (by (with_reducible repeat (first | refine blk_drewN ?_ _ | refine blk_drew ?_ | refine blk_alloc ?_ _)); exact K.out) hb); have n1_ := Aside0.mk (below_step (by repeat (first | (with_reducible first | exact HB.out | apply below_alloc | apply pw_below_drewN | apply below_drew1 | refine below_set ?_ E.out) | exact HB.out)) hb); have n2_ := Aside0.mk (hbox); have n3_ := Aside0.mk ((by rw [hg]; exact (below_size (by repeat (first | (with_reducible first | exact HB.out | apply below_alloc | apply pw_below_drewN | apply below_drew1 | refine below_set ?_ E.out) | exact HB.out))) : w.heap.size ≤ gb165)); have n4_ := Aside0.mk ((by rw [hg]; exact (below_size (by repeat (first | (with_reducible first | exact HB.out | apply below_alloc | apply pw_below_drewN | apply below_drew1 | refine below_set ?_ E.out) | exact HB.out))) : w.heap.size ≤ gb165)); have n5_ := Aside0.mk ((by rw [hg]; exact Nat.ne_of_lt (blk_lt (g := g) (o := .cells #[.slice (some ad164) t0.length c0_0, .slice P1 t1.length c0_1, .slice P2 t2.length c0_2, .int .i64 m, .int .i64 a0_4] 26 (0, 0)) (by (with_reducible repeat (first | refine blk_drewN ?_ _ | refine blk_drew ?_ | refine blk_alloc ?_ _)); exact K.out)) : g ≠ gb165)); have n6_ := Aside0.mk ((by rw [hg]; exact Nat.ne_of_gt (blk_lt (g := g) (o := .cells #[.slice (some ad164) t0.length c0_0, .slice P1 t1.length c0_1, .slice P2 t2.length c0_2, .int .i64 m, .int .i64 a0_4] 26 (0, 0)) (by (with_reducible repeat (first | refine blk_drewN ?_ _ | refine blk_drew ?_ | refine blk_alloc ?_ _)); exact K.out)) : gb165 ≠ g)); clear K; clear HB; have K := n0_; have HB := n1_; have BK165 := n2_; have GW165 := n3_; have GE165 := n4_; have NB163_165 := n5_; have NB165_163 := n6_; clear n0_ n1_ n2_ n3_ n4_ n5_ n6_; clear hb hbox hg; have hnb25 := NB165_163.out; have hnc25 := NB163_165.out; have hcz26_0 : w24.cell? ⟨gb165, 0, none⟩ = some (.int .i64 0) := (blk_cell BK165.out 0).trans rfl; have hcz26_1 : w24.cell? ⟨gb165, 1, none⟩ = some (.int .i64 0) := (blk_cell BK165.out 1).trans rfl; have hcz26_2 : w24.cell? ⟨gb165, 2, none⟩ = some (.int .i64 0) := (blk_cell BK165.out 2).trans rfl; have hcz26_3 : w24.cell? ⟨gb165, 3, none⟩ = some (.int .i64 0) := (blk_cell BK165.out 3).trans rfl; have hfz26_0 := blk_frozen BK165.out 0; have hfz26_1 := blk_frozen BK165.out 1; have hfz26_2 := blk_frozen BK165.out 2; have hfz26_3 := blk_frozen BK165.out 3))
              go_ret
              exact ⟨by first | rfl | (simp [errW_none, errW_some] <;> rfl) | (simp [*, errW_none, errW_some] <;> rfl), by repeat (first | (with_reducible first | exact HB.out | apply below_alloc | apply pw_below_drewN | apply below_drew1 | refine below_set ?_ E.out | refine below_set ?_ GE165.out) | exact HB.out)⟩
             rw [if_neg c22] at H
             have c22b0 : decide (((rd_T31 t0 x3_2).f0.f0) < 1) = false := decide_eq_false c22
             clear c22
             by_cases c27 : ((rd_T31 t0 x3_2).f0.f0) > 100000
             ·rw [if_pos c27] at H
              have c27b0 : decide (100000 < ((rd_T31 t0 x3_2).f0.f0)) = true := decide_eq_true c27
              clear c27
              obtain rfl := Option.some.inj H
              have hcz28_0 : wr.cell? ⟨g, 0, none⟩ = some (.slice P0 t0.length c0_0) := (blk_cell K.out 0).trans rfl
              have hcz28_1 : wr.cell? ⟨g, 1, none⟩ = some (.slice P1 t1.length c0_1) := (blk_cell K.out 1).trans rfl
              have hcz28_2 : wr.cell? ⟨g, 2, none⟩ = some (.slice P2 t2.length c0_2) := (blk_cell K.out 2).trans rfl
              have hcz28_3 : wr.cell? ⟨g, 3, none⟩ = some (.int .i64 m) := (blk_cell K.out 3).trans rfl
              have hcz28_4 : wr.cell? ⟨g, 4, none⟩ = some (.int .i64 a0_4) := (blk_cell K.out 4).trans rfl
              have hfz28_0 := blk_frozen K.out 0
              have hfz28_1 := blk_frozen K.out 1
              have hfz28_2 := blk_frozen K.out 2
              have hfz28_3 := blk_frozen K.out 3
              have hfz28_4 := blk_frozen K.out 4
              have p164 : 0 ≤ (x3_2 : Int) := of_decide_eq_true (by first | (with_reducible assumption) | assumption)
              have q164 : x3_2 < (t0.length : Int) := of_decide_eq_true (by first | (with_reducible assumption) | assumption)
              obtain ⟨ad164, e164, hx164_0, hx164_1, hx164_2, hx164_3, hx164_4, hx164_5, hx164_6, hx164_7, hx164_8, hx164_9, hx164_10, hx164_11, hx164_12, hx164_13, hx164_14, hx164_15⟩ := at_T31 HR0_0.out x3_2 p164 q164
              cases e164
              replace hx164_0 := (HB.out.cell (World.block_lt_of_cell? w _ hx164_0)).trans hx164_0
              replace hx164_1 := (HB.out.cell (World.block_lt_of_cell? w _ hx164_1)).trans hx164_1
              replace hx164_2 := (HB.out.cell (World.block_lt_of_cell? w _ hx164_2)).trans hx164_2
              replace hx164_3 := (HB.out.cell (World.block_lt_of_cell? w _ hx164_3)).trans hx164_3
              replace hx164_4 := (HB.out.cell (World.block_lt_of_cell? w _ hx164_4)).trans hx164_4
              replace hx164_5 := (HB.out.cell (World.block_lt_of_cell? w _ hx164_5)).trans hx164_5
              replace hx164_6 := (HB.out.cell (World.block_lt_of_cell? w _ hx164_6)).trans hx164_6
              replace hx164_7 := (HB.out.cell (World.block_lt_of_cell? w _ hx164_7)).trans hx164_7
              replace hx164_8 := (HB.out.cell (World.block_lt_of_cell? w _ hx164_8)).trans hx164_8
              replace hx164_9 := (HB.out.cell (World.block_lt_of_cell? w _ hx164_9)).trans hx164_9
              replace hx164_10 := (HB.out.cell (World.block_lt_of_cell? w _ hx164_10)).trans hx164_10
              replace hx164_11 := (HB.out.cell (World.block_lt_of_cell? w _ hx164_11)).trans hx164_11
              replace hx164_12 := (HB.out.cell (World.block_lt_of_cell? w _ hx164_12)).trans hx164_12
              replace hx164_13 := (HB.out.cell (World.block_lt_of_cell? w _ hx164_13)).trans hx164_13
              replace hx164_14 := (HB.out.cell (World.block_lt_of_cell? w _ hx164_14)).trans hx164_14
              replace hx164_15 := (HB.out.cell (World.block_lt_of_cell? w _ hx164_15)).trans hx164_15
              replace p164 := eq_true p164
              replace q164 := eq_true q164
              go_wp2_with (first | ((with_reducible refine gate_dst (N := 5) rfl ?_); (try (refine gate_guard (by rfl) ?_; dsimp only)); refine box_event ?hg (N := 5) ?hd (cs := #[.int .i64 0, .int .i64 0, .int .i64 0, .int .i64 0]) (t := 30) ?hr ?_; (case hd => rfl); (case hg => rfl); (case hr => first | (go_simp; done) | (go_simp; rfl)); intro gb165 hg w29 hbox hb; have n0_ := Aside0.mk (blk_below (g := g) (o := .cells #[.slice (some ad164) t0.length c0_0, .slice P1 t1.length c0_1, .slice P2 t2.length c0_2, .int .i64 m, .int .i64 a0_4] 26 (0, 0)) (by (with_reducible repeat (first | refine blk_drewN ?_ _ | refine blk_drew ?_ | refine blk_alloc ?_ _)); exact K.out) hb); have n1_ := Aside0.mk (below_step (by repeat (first | (with_reducible first | exact HB.out | apply below_alloc | apply pw_below_drewN | apply below_drew1 | refine below_set ?_ E.out) | exact HB.out)) hb); have n2_ := Aside0.mk (hbox); have n3_ := Aside0.mk ((by rw [hg]; exact (below_size (by repeat (first | (with_reducible first | exact HB.out | apply below_alloc | apply pw_below_drewN | apply below_drew1 | refine below_set ?_ E.out) | exact HB.out))) : w.heap.size ≤ gb165)); have n4_ := Aside0.mk ((by rw [hg]; exact (below_size (by repeat (first | (with_reducible first | exact HB.out | apply below_alloc | apply pw_below_drewN | apply below_drew1 | refine below_set ?_ E.out) | exact HB.out))) : w.heap.size ≤ gb165)); have n5_ := Aside0.mk ((by rw [hg]; exact Nat.ne_of_lt (blk_lt (g := g) (o := .cells #[.slice (some ad164) t0.length c0_0, .slice P1 t1.length c0_1, .slice P2 t2.length c0_2, .int .i64 m, .int .i64 a0_4] 26 (0, 0)) (by (with_reducible repeat (first | refine blk_drewN ?_ _ | refine blk_drew ?_ | refine blk_alloc ?_ _)); exact K.out)) : g ≠ gb165)); have n6_ := Aside0.mk ((by rw [hg]; exact Nat.ne_of_gt (blk_lt (g := g) (o := .cells #[.slice (some ad164) t0.length c0_0, .slice P1 t1.length c0_1, .slice P2 t2.length c0_2, .int .i64 m, .int .i64 a0_4] 26 (0, 0)) (by (with_reducible repeat (first | refine blk_drewN ?_ _ | refine blk_drew ?_ | refine blk_alloc ?_ _)); exact K.out)) : gb165 ≠ g)); clear K; clear HB; have K := n0_; have HB := n1_; have BK165 := n2_; have GW165 := n3_; have GE165 := n4_; have NB163_165 := n5_; have NB165_163 := n6_; clear n0_ n1_ n2_ n3_ n4_ n5_ n6_; clear hb hbox hg; have hnb30 := NB165_163.out; have hnc30 := NB163_165.out; have hcz31_0 : w29.cell? ⟨gb165, 0, none⟩ = some (.int .i64 0) := (blk_cell BK165.out 0).trans rfl; have hcz31_1 : w29.cell? ⟨gb165, 1, none⟩ = some (.int .i64 0) := (blk_cell BK165.out 1).trans rfl; have hcz31_2 : w29.cell? ⟨gb165, 2, none⟩ = some (.int .i64 0) := (blk_cell BK165.out 2).trans rfl; have hcz31_3 : w29.cell? ⟨gb165, 3, none⟩ = some (.int .i64 0) := (blk_cell BK165.out 3).trans rfl; have hfz31_0 := blk_frozen BK165.out 0; have hfz31_1 := blk_frozen BK165.out 1; have hfz31_2 := blk_frozen BK165.out 2; have hfz31_3 := blk_frozen BK165.out 3))
              go_ret
              exact ⟨by first | rfl | (simp [errW_none, errW_some] <;> rfl) | (simp [*, errW_none, errW_some] <;> rfl), by repeat (first | (with_reducible first | exact HB.out | apply below_alloc | apply pw_below_drewN | apply below_drew1 | refine below_set ?_ E.out | refine below_set ?_ GE165.out) | exact HB.out)⟩
             rw [if_neg c27] at H
             have c27b0 : decide (100000 < ((rd_T31 t0 x3_2).f0.f0)) = false := decide_eq_false c27
             clear c27
             by_cases c32 : ((rd_T31 t0 x3_2).f0.f1) < 0
             ·rw [if_pos c32] at H
              have c32b0 : decide (((rd_T31 t0 x3_2).f0.f1) < 0) = true := decide_eq_true c32
              clear c32
              obtain rfl := Option.some.inj H
              have hcz33_0 : wr.cell? ⟨g, 0, none⟩ = some (.slice P0 t0.length c0_0) := (blk_cell K.out 0).trans rfl
              have hcz33_1 : wr.cell? ⟨g, 1, none⟩ = some (.slice P1 t1.length c0_1) := (blk_cell K.out 1).trans rfl
              have hcz33_2 : wr.cell? ⟨g, 2, none⟩ = some (.slice P2 t2.length c0_2) := (blk_cell K.out 2).trans rfl
              have hcz33_3 : wr.cell? ⟨g, 3, none⟩ = some (.int .i64 m) := (blk_cell K.out 3).trans rfl
              have hcz33_4 : wr.cell? ⟨g, 4, none⟩ = some (.int .i64 a0_4) := (blk_cell K.out 4).trans rfl
              have hfz33_0 := blk_frozen K.out 0
              have hfz33_1 := blk_frozen K.out 1
              have hfz33_2 := blk_frozen K.out 2
              have hfz33_3 := blk_frozen K.out 3
              have hfz33_4 := blk_frozen K.out 4
              have p164 : 0 ≤ (x3_2 : Int) := of_decide_eq_true (by first | (with_reducible assumption) | assumption)
              have q164 : x3_2 < (t0.length : Int) := of_decide_eq_true (by first | (with_reducible assumption) | assumption)
              obtain ⟨ad164, e164, hx164_0, hx164_1, hx164_2, hx164_3, hx164_4, hx164_5, hx164_6, hx164_7, hx164_8, hx164_9, hx164_10, hx164_11, hx164_12, hx164_13, hx164_14, hx164_15⟩ := at_T31 HR0_0.out x3_2 p164 q164
              cases e164
              replace hx164_0 := (HB.out.cell (World.block_lt_of_cell? w _ hx164_0)).trans hx164_0
              replace hx164_1 := (HB.out.cell (World.block_lt_of_cell? w _ hx164_1)).trans hx164_1
              replace hx164_2 := (HB.out.cell (World.block_lt_of_cell? w _ hx164_2)).trans hx164_2
              replace hx164_3 := (HB.out.cell (World.block_lt_of_cell? w _ hx164_3)).trans hx164_3
              replace hx164_4 := (HB.out.cell (World.block_lt_of_cell? w _ hx164_4)).trans hx164_4
              replace hx164_5 := (HB.out.cell (World.block_lt_of_cell? w _ hx164_5)).trans hx164_5
              replace hx164_6 := (HB.out.cell (World.block_lt_of_cell? w _ hx164_6)).trans hx164_6
              replace hx164_7 := (HB.out.cell (World.block_lt_of_cell? w _ hx164_7)).trans hx164_7
              replace hx164_8 := (HB.out.cell (World.block_lt_of_cell? w _ hx164_8)).trans hx164_8
              replace hx164_9 := (HB.out.cell (World.block_lt_of_cell? w _ hx164_9)).trans hx164_9
              replace hx164_10 := (HB.out.cell (World.block_lt_of_cell? w _ hx164_10)).trans hx164_10
              replace hx164_11 := (HB.out.cell (World.block_lt_of_cell? w _ hx164_11)).trans hx164_11
              replace hx164_12 := (HB.out.cell (World.block_lt_of_cell? w _ hx164_12)).trans hx164_12
              replace hx164_13 := (HB.out.cell (World.block_lt_of_cell? w _ hx164_13)).trans hx164_13
              replace hx164_14 := (HB.out.cell (World.block_lt_of_cell? w _ hx164_14)).trans hx164_14
              replace hx164_15 := (HB.out.cell (World.block_lt_of_cell? w _ hx164_15)).trans hx164_15
              replace p164 := eq_true p164
              replace q164 := eq_true q164
              go_wp2_with (first | ((with_reducible refine gate_dst (N := 5) rfl ?_); (try (refine gate_guard (by rfl) ?_; dsimp only)); refine box_event ?hg (N := 5) ?hd (cs := #[.int .i64 0, .int .i64 0, .int .i64 0, .int .i64 0]) (t := 30) ?hr ?_; (case hd => rfl); (case hg => rfl); (case hr => first | (go_simp; done) | (go_simp; rfl)); intro gb165 hg w34 hbox hb; have n0_ := Aside0.mk (blk_below (g := g) (o := .cells #[.slice (some ad164) t0.length c0_0, .slice P1 t1.length c0_1, .slice P2 t2.length c0_2, .int .i64 m, .int .i64 a0_4] 26 (0, 0)) (by (with_reducible repeat (first | refine blk_drewN ?_ _ | refine blk_drew ?_ | refine blk_alloc ?_ _)); exact K.out) hb); have n1_ := Aside0.mk (below_step (by repeat (first | (with_reducible first | exact HB.out | apply below_alloc | apply pw_below_drewN | apply below_drew1 | refine below_set ?_ E.out) | exact HB.out)) hb); have n2_ := Aside0.mk (hbox); have n3_ := Aside0.mk ((by rw [hg]; exact (below_size (by repeat (first | (with_reducible first | exact HB.out | apply below_alloc | apply pw_below_drewN | apply below_drew1 | refine below_set ?_ E.out) | exact HB.out))) : w.heap.size ≤ gb165)); have n4_ := Aside0.mk ((by rw [hg]; exact (below_size (by repeat (first | (with_reducible first | exact HB.out | apply below_alloc | apply pw_below_drewN | apply below_drew1 | refine below_set ?_ E.out) | exact HB.out))) : w.heap.size ≤ gb165)); have n5_ := Aside0.mk ((by rw [hg]; exact Nat.ne_of_lt (blk_lt (g := g) (o := .cells #[.slice (some ad164) t0.length c0_0, .slice P1 t1.length c0_1, .slice P2 t2.length c0_2, .int .i64 m, .int .i64 a0_4] 26 (0, 0)) (by (with_reducible repeat (first | refine blk_drewN ?_ _ | refine blk_drew ?_ | refine blk_alloc ?_ _)); exact K.out)) : g ≠ gb165)); have n6_ := Aside0.mk ((by rw [hg]; exact Nat.ne_of_gt (blk_lt (g := g) (o := .cells #[.slice (some ad164) t0.length c0_0, .slice P1 t1.length c0_1, .slice P2 t2.length c0_2, .int .i64 m, .int .i64 a0_4] 26 (0, 0)) (by (with_reducible repeat (first | refine blk_drewN ?_ _ | refine blk_drew ?_ | refine blk_alloc ?_ _)); exact K.out)) : gb165 ≠ g)); clear K; clear HB; have K := n0_; have HB := n1_; have BK165 := n2_; have GW165 := n3_; have GE165 := n4_; have NB163_165 := n5_; have NB165_163 := n6_; clear n0_ n1_ n2_ n3_ n4_ n5_ n6_; clear hb hbox hg; have hnb35 := NB165_163.out; have hnc35 := NB163_165.out; have hcz36_0 : w34.cell? ⟨gb165, 0, none⟩ = some (.int .i64 0) := (blk_cell BK165.out 0).trans rfl; have hcz36_1 : w34.cell? ⟨gb165, 1, none⟩ = some (.int .i64 0) := (blk_cell BK165.out 1).trans rfl; have hcz36_2 : w34.cell? ⟨gb165, 2, none⟩ = some (.int .i64 0) := (blk_cell BK165.out 2).trans rfl; have hcz36_3 : w34.cell? ⟨gb165, 3, none⟩ = some (.int .i64 0) := (blk_cell BK165.out 3).trans rfl; have hfz36_0 := blk_frozen BK165.out 0; have hfz36_1 := blk_frozen BK165.out 1; have hfz36_2 := blk_frozen BK165.out 2; have hfz36_3 := blk_frozen BK165.out 3))
              go_ret
              exact ⟨by first | rfl | (simp [errW_none, errW_some] <;> rfl) | (simp [*, errW_none, errW_some] <;> rfl), by repeat (first | (with_reducible first | exact HB.out | apply below_alloc | apply pw_below_drewN | apply below_drew1 | refine below_set ?_ E.out | refine below_set ?_ GE165.out) | exact HB.out)⟩
             rw [if_neg c32] at H
             have c32b0 : decide (((rd_T31 t0 x3_2).f0.f1) < 0) = false := decide_eq_false c32
             clear c32
             by_cases c37 : ((rd_T31 t0 x3_2).f0.f1) > 10000
             ·rw [if_pos c37] at H
              have c37b0 : decide (10000 < ((rd_T31 t0 x3_2).f0.f1)) = true := decide_eq_true c37
              clear c37
              obtain rfl := Option.some.inj H
              have hcz38_0 : wr.cell? ⟨g, 0, none⟩ = some (.slice P0 t0.length c0_0) := (blk_cell K.out 0).trans rfl
              have hcz38_1 : wr.cell? ⟨g, 1, none⟩ = some (.slice P1 t1.length c0_1) := (blk_cell K.out 1).trans rfl
              have hcz38_2 : wr.cell? ⟨g, 2, none⟩ = some (.slice P2 t2.length c0_2) := (blk_cell K.out 2).trans rfl
              have hcz38_3 : wr.cell? ⟨g, 3, none⟩ = some (.int .i64 m) := (blk_cell K.out 3).trans rfl
              have hcz38_4 : wr.cell? ⟨g, 4, none⟩ = some (.int .i64 a0_4) := (blk_cell K.out 4).trans rfl
              have hfz38_0 := blk_frozen K.out 0
              have hfz38_1 := blk_frozen K.out 1
              have hfz38_2 := blk_frozen K.out 2
              have hfz38_3 := blk_frozen K.out 3
              have hfz38_4 := blk_frozen K.out 4
              have p164 : 0 ≤ (x3_2 : Int) := of_decide_eq_true (by first | (with_reducible assumption) | assumption)
              have q164 : x3_2 < (t0.length : Int) := of_decide_eq_true (by first | (with_reducible assumption) | assumption)
              obtain ⟨ad164, e164, hx164_0, hx164_1, hx164_2, hx164_3, hx164_4, hx164_5, hx164_6, hx164_7, hx164_8, hx164_9, hx164_10, hx164_11, hx164_12, hx164_13, hx164_14, hx164_15⟩ := at_T31 HR0_0.out x3_2 p164 q164
              cases e164
              replace hx164_0 := (HB.out.cell (World.block_lt_of_cell? w _ hx164_0)).trans hx164_0
              replace hx164_1 := (HB.out.cell (World.block_lt_of_cell? w _ hx164_1)).trans hx164_1
              replace hx164_2 := (HB.out.cell (World.block_lt_of_cell? w _ hx164_2)).trans hx164_2
              replace hx164_3 := (HB.out.cell (World.block_lt_of_cell? w _ hx164_3)).trans hx164_3
              replace hx164_4 := (HB.out.cell (World.block_lt_of_cell? w _ hx164_4)).trans hx164_4
              replace hx164_5 := (HB.out.cell (World.block_lt_of_cell? w _ hx164_5)).trans hx164_5
              replace hx164_6 := (HB.out.cell (World.block_lt_of_cell? w _ hx164_6)).trans hx164_6
              replace hx164_7 := (HB.out.cell (World.block_lt_of_cell? w _ hx164_7)).trans hx164_7
              replace hx164_8 := (HB.out.cell (World.block_lt_of_cell? w _ hx164_8)).trans hx164_8
              replace hx164_9 := (HB.out.cell (World.block_lt_of_cell? w _ hx164_9)).trans hx164_9
              replace hx164_10 := (HB.out.cell (World.block_lt_of_cell? w _ hx164_10)).trans hx164_10
              replace hx164_11 := (HB.out.cell (World.block_lt_of_cell? w _ hx164_11)).trans hx164_11
              replace hx164_12 := (HB.out.cell (World.block_lt_of_cell? w _ hx164_12)).trans hx164_12
              replace hx164_13 := (HB.out.cell (World.block_lt_of_cell? w _ hx164_13)).trans hx164_13
              replace hx164_14 := (HB.out.cell (World.block_lt_of_cell? w _ hx164_14)).trans hx164_14
              replace hx164_15 := (HB.out.cell (World.block_lt_of_cell? w _ hx164_15)).trans hx164_15
              replace p164 := eq_true p164
              replace q164 := eq_true q164
              go_wp2_with (first | ((with_reducible refine gate_dst (N := 5) rfl ?_); (try (refine gate_guard (by rfl) ?_; dsimp only)); refine box_event ?hg (N := 5) ?hd (cs := #[.int .i64 0, .int .i64 0, .int .i64 0, .int .i64 0]) (t := 30) ?hr ?_; (case hd => rfl); (case hg => rfl); (case hr => first | (go_simp; done) | (go_simp; rfl)); intro gb165 hg w39 hbox hb; have n0_ := Aside0.mk (blk_below (g := g) (o := .cells #[.slice (some ad164) t0.length c0_0, .slice P1 t1.length c0_1, .slice P2 t2.length c0_2, .int .i64 m, .int .i64 a0_4] 26 (0, 0)) (by (with_reducible repeat (first | refine blk_drewN ?_ _ | refine blk_drew ?_ | refine blk_alloc ?_ _)); exact K.out) hb); have n1_ := Aside0.mk (below_step (by repeat (first | (with_reducible first | exact HB.out | apply below_alloc | apply pw_below_drewN | apply below_drew1 | refine below_set ?_ E.out) | exact HB.out)) hb); have n2_ := Aside0.mk (hbox); have n3_ := Aside0.mk ((by rw [hg]; exact (below_size (by repeat (first | (with_reducible first | exact HB.out | apply below_alloc | apply pw_below_drewN | apply below_drew1 | refine below_set ?_ E.out) | exact HB.out))) : w.heap.size ≤ gb165)); have n4_ := Aside0.mk ((by rw [hg]; exact (below_size (by repeat (first | (with_reducible first | exact HB.out | apply below_alloc | apply pw_below_drewN | apply below_drew1 | refine below_set ?_ E.out) | exact HB.out))) : w.heap.size ≤ gb165)); have n5_ := Aside0.mk ((by rw [hg]; exact Nat.ne_of_lt (blk_lt (g := g) (o := .cells #[.slice (some ad164) t0.length c0_0, .slice P1 t1.length c0_1, .slice P2 t2.length c0_2, .int .i64 m, .int .i64 a0_4] 26 (0, 0)) (by (with_reducible repeat (first | refine blk_drewN ?_ _ | refine blk_drew ?_ | refine blk_alloc ?_ _)); exact K.out)) : g ≠ gb165)); have n6_ := Aside0.mk ((by rw [hg]; exact Nat.ne_of_gt (blk_lt (g := g) (o := .cells #[.slice (some ad164) t0.length c0_0, .slice P1 t1.length c0_1, .slice P2 t2.length c0_2, .int .i64 m, .int .i64 a0_4] 26 (0, 0)) (by (with_reducible repeat (first | refine blk_drewN ?_ _ | refine blk_drew ?_ | refine blk_alloc ?_ _)); exact K.out)) : gb165 ≠ g)); clear K; clear HB; have K := n0_; have HB := n1_; have BK165 := n2_; have GW165 := n3_; have GE165 := n4_; have NB163_165 := n5_; have NB165_163 := n6_; clear n0_ n1_ n2_ n3_ n4_ n5_ n6_; clear hb hbox hg; have hnb40 := NB165_163.out; have hnc40 := NB163_165.out; have hcz41_0 : w39.cell? ⟨gb165, 0, none⟩ = some (.int .i64 0) := (blk_cell BK165.out 0).trans rfl; have hcz41_1 : w39.cell? ⟨gb165, 1, none⟩ = some (.int .i64 0) := (blk_cell BK165.out 1).trans rfl; have hcz41_2 : w39.cell? ⟨gb165, 2, none⟩ = some (.int .i64 0) := (blk_cell BK165.out 2).trans rfl; have hcz41_3 : w39.cell? ⟨gb165, 3, none⟩ = some (.int .i64 0) := (blk_cell BK165.out 3).trans rfl; have hfz41_0 := blk_frozen BK165.out 0; have hfz41_1 := blk_frozen BK165.out 1; have hfz41_2 := blk_frozen BK165.out 2; have hfz41_3 := blk_frozen BK165.out 3))
              go_ret
              exact ⟨by first | rfl | (simp [errW_none, errW_some] <;> rfl) | (simp [*, errW_none, errW_some] <;> rfl), by repeat (first | (with_reducible first | exact HB.out | apply below_alloc | apply pw_below_drewN | apply below_drew1 | refine below_set ?_ E.out | refine below_set ?_ GE165.out) | exact HB.out)⟩
             rw [if_neg c37] at H
             have c37b0 : decide (10000 < ((rd_T31 t0 x3_2).f0.f1)) = false := decide_eq_false c37
             clear c37
             by_cases c42 : ((rd_T31 t0 x3_2).f0.f2) = 0
             ·rw [if_pos c42] at H
              have c42b0 : (((rd_T31 t0 x3_2).f0.f2) == 0) = true := beq_iff_eq.mpr c42
              have c42b1 : (((rd_T31 t0 x3_2).f0.f2) != 0) = false := bne_eq_false_iff_eq.mpr c42
              clear c42
              by_cases c43 : ((rd_T31 t0 x3_2).f0.f3) = 0
              ·rw [if_pos c43] at H
               have c43b0 : (((rd_T31 t0 x3_2).f0.f3) == 0) = true := beq_iff_eq.mpr c43
               have c43b1 : (((rd_T31 t0 x3_2).f0.f3) != 0) = false := bne_eq_false_iff_eq.mpr c43
               clear c43
               have H' := Aside0.mk H
               clear H
               have hcz44_0 : wr.cell? ⟨g, 0, none⟩ = some (.slice P0 t0.length c0_0) := (blk_cell K.out 0).trans rfl
               have hcz44_1 : wr.cell? ⟨g, 1, none⟩ = some (.slice P1 t1.length c0_1) := (blk_cell K.out 1).trans rfl
               have hcz44_2 : wr.cell? ⟨g, 2, none⟩ = some (.slice P2 t2.length c0_2) := (blk_cell K.out 2).trans rfl
               have hcz44_3 : wr.cell? ⟨g, 3, none⟩ = some (.int .i64 m) := (blk_cell K.out 3).trans rfl
               have hcz44_4 : wr.cell? ⟨g, 4, none⟩ = some (.int .i64 a0_4) := (blk_cell K.out 4).trans rfl
               have hfz44_0 := blk_frozen K.out 0
               have hfz44_1 := blk_frozen K.out 1
               have hfz44_2 := blk_frozen K.out 2
               have hfz44_3 := blk_frozen K.out 3
               have hfz44_4 := blk_frozen K.out 4
               have p164 : 0 ≤ (x3_2 : Int) := of_decide_eq_true (by first | (with_reducible assumption) | assumption)
               have q164 : x3_2 < (t0.length : Int) := of_decide_eq_true (by first | (with_reducible assumption) | assumption)
               obtain ⟨ad164, e164, hx164_0, hx164_1, hx164_2, hx164_3, hx164_4, hx164_5, hx164_6, hx164_7, hx164_8, hx164_9, hx164_10, hx164_11, hx164_12, hx164_13, hx164_14, hx164_15⟩ := at_T31 HR0_0.out x3_2 p164 q164
               cases e164
               replace hx164_0 := (HB.out.cell (World.block_lt_of_cell? w _ hx164_0)).trans hx164_0
               replace hx164_1 := (HB.out.cell (World.block_lt_of_cell? w _ hx164_1)).trans hx164_1
               replace hx164_2 := (HB.out.cell (World.block_lt_of_cell? w _ hx164_2)).trans hx164_2
               replace hx164_3 := (HB.out.cell (World.block_lt_of_cell? w _ hx164_3)).trans hx164_3
               replace hx164_4 := (HB.out.cell (World.block_lt_of_cell? w _ hx164_4)).trans hx164_4
               replace hx164_5 := (HB.out.cell (World.block_lt_of_cell? w _ hx164_5)).trans hx164_5
               replace hx164_6 := (HB.out.cell (World.block_lt_of_cell? w _ hx164_6)).trans hx164_6
               replace hx164_7 := (HB.out.cell (World.block_lt_of_cell? w _ hx164_7)).trans hx164_7
               replace hx164_8 := (HB.out.cell (World.block_lt_of_cell? w _ hx164_8)).trans hx164_8
               replace hx164_9 := (HB.out.cell (World.block_lt_of_cell? w _ hx164_9)).trans hx164_9
               replace hx164_10 := (HB.out.cell (World.block_lt_of_cell? w _ hx164_10)).trans hx164_10
               replace hx164_11 := (HB.out.cell (World.block_lt_of_cell? w _ hx164_11)).trans hx164_11
               replace hx164_12 := (HB.out.cell (World.block_lt_of_cell? w _ hx164_12)).trans hx164_12
               replace hx164_13 := (HB.out.cell (World.block_lt_of_cell? w _ hx164_13)).trans hx164_13
               replace hx164_14 := (HB.out.cell (World.block_lt_of_cell? w _ hx164_14)).trans hx164_14
               replace hx164_15 := (HB.out.cell (World.block_lt_of_cell? w _ hx164_15)).trans hx164_15
               replace p164 := eq_true p164
               replace q164 := eq_true q164
               go_wp2_with (first | ((with_reducible refine gate_dst (N := 5) rfl ?_); (try (refine gate_guard (by rfl) ?_; dsimp only)); refine box_event ?hg (N := 5) ?hd (cs := #[.int .i64 0, .int .i64 0, .int .i64 0, .int .i64 0]) (t := 30) ?hr ?_; (case hd => rfl); (case hg => rfl); (case hr => first | (go_simp; done) | (go_simp; rfl)); intro gb165 hg w45 hbox hb; have n0_ := Aside0.mk (blk_below (g := g) (o := .cells #[.slice (some ad164) t0.length c0_0, .slice P1 t1.length c0_1, .slice P2 t2.length c0_2, .int .i64 m, .int .i64 a0_4] 26 (0, 0)) (by (with_reducible repeat (first | refine blk_drewN ?_ _ | refine blk_drew ?_ | refine blk_alloc ?_ _)); exact K.out) hb); have n1_ := Aside0.mk (below_step (by repeat (first | (with_reducible first | exact HB.out | apply below_alloc | apply pw_below_drewN | apply below_drew1 | refine below_set ?_ E.out) | exact HB.out)) hb); have n2_ := Aside0.mk (hbox); have n3_ := Aside0.mk ((by rw [hg]; exact (below_size (by repeat (first | (with_reducible first | exact HB.out | apply below_alloc | apply pw_below_drewN | apply below_drew1 | refine below_set ?_ E.out) | exact HB.out))) : w.heap.size ≤ gb165)); have n4_ := Aside0.mk ((by rw [hg]; exact (below_size (by repeat (first | (with_reducible first | exact HB.out | apply below_alloc | apply pw_below_drewN | apply below_drew1 | refine below_set ?_ E.out) | exact HB.out))) : w.heap.size ≤ gb165)); have n5_ := Aside0.mk ((by rw [hg]; exact Nat.ne_of_lt (blk_lt (g := g) (o := .cells #[.slice (some ad164) t0.length c0_0, .slice P1 t1.length c0_1, .slice P2 t2.length c0_2, .int .i64 m, .int .i64 a0_4] 26 (0, 0)) (by (with_reducible repeat (first | refine blk_drewN ?_ _ | refine blk_drew ?_ | refine blk_alloc ?_ _)); exact K.out)) : g ≠ gb165)); have n6_ := Aside0.mk ((by rw [hg]; exact Nat.ne_of_gt (blk_lt (g := g) (o := .cells #[.slice (some ad164) t0.length c0_0, .slice P1 t1.length c0_1, .slice P2 t2.length c0_2, .int .i64 m, .int .i64 a0_4] 26 (0, 0)) (by (with_reducible repeat (first | refine blk_drewN ?_ _ | refine blk_drew ?_ | refine blk_alloc ?_ _)); exact K.out)) : gb165 ≠ g)); clear K; clear HB; have K := n0_; have HB := n1_; have BK165 := n2_; have GW165 := n3_; have GE165 := n4_; have NB163_165 := n5_; have NB165_163 := n6_; clear n0_ n1_ n2_ n3_ n4_ n5_ n6_; clear hb hbox hg; have hnb46 := NB165_163.out; have hnc46 := NB163_165.out; have hcz47_0 : w45.cell? ⟨gb165, 0, none⟩ = some (.int .i64 0) := (blk_cell BK165.out 0).trans rfl; have hcz47_1 : w45.cell? ⟨gb165, 1, none⟩ = some (.int .i64 0) := (blk_cell BK165.out 1).trans rfl; have hcz47_2 : w45.cell? ⟨gb165, 2, none⟩ = some (.int .i64 0) := (blk_cell BK165.out 2).trans rfl; have hcz47_3 : w45.cell? ⟨gb165, 3, none⟩ = some (.int .i64 0) := (blk_cell BK165.out 3).trans rfl; have hfz47_0 := blk_frozen BK165.out 0; have hfz47_1 := blk_frozen BK165.out 1; have hfz47_2 := blk_frozen BK165.out 2; have hfz47_3 := blk_frozen BK165.out 3))
               go_roundg k3
               case measure => have := HJ1.out; have := HK2.out; have := HK3.out; omega
               case rel => exact ⟨(wrap64 (0 + 1)), (by first | rfl | (simp; done) | (simp [*]; done) | (congr 1; unfold wrap64; omega)), H', ⟨by have := HJ1.out; have := HK2.out; have := HK3.out; omega⟩, ⟨by (with_reducible repeat (first | refine blk_drewN ?_ _ | refine blk_drew ?_ | refine blk_alloc ?_ _)); refine blk_far ?_ NB163_165.out _; (with_reducible repeat (first | refine blk_drewN ?_ _ | refine blk_drew ?_ | refine blk_alloc ?_ _)); refine blk_far ?_ NB163_165.out _; (with_reducible repeat (first | refine blk_drewN ?_ _ | refine blk_drew ?_ | refine blk_alloc ?_ _)); refine blk_far ?_ NB163_165.out _; (with_reducible repeat (first | refine blk_drewN ?_ _ | refine blk_drew ?_ | refine blk_alloc ?_ _)); refine blk_far ?_ NB163_165.out _; (with_reducible repeat (first | refine blk_drewN ?_ _ | refine blk_drew ?_ | refine blk_alloc ?_ _)); exact K.out⟩, ⟨by repeat (first | (with_reducible first | exact HB.out | apply below_alloc | apply pw_below_drewN | apply below_drew1 | refine below_set ?_ E.out | refine below_set ?_ GE165.out) | exact HB.out)⟩⟩
              rw [if_neg c43] at H
              have c43b0 : (((rd_T31 t0 x3_2).f0.f3) == 0) = false := beq_eq_false_iff_ne.mpr c43
              have c43b1 : (((rd_T31 t0 x3_2).f0.f3) != 0) = true := bne_iff_ne.mpr c43
              obtain rfl := Option.some.inj H
              have hcz48_0 : wr.cell? ⟨g, 0, none⟩ = some (.slice P0 t0.length c0_0) := (blk_cell K.out 0).trans rfl
              have hcz48_1 : wr.cell? ⟨g, 1, none⟩ = some (.slice P1 t1.length c0_1) := (blk_cell K.out 1).trans rfl
              have hcz48_2 : wr.cell? ⟨g, 2, none⟩ = some (.slice P2 t2.length c0_2) := (blk_cell K.out 2).trans rfl
              have hcz48_3 : wr.cell? ⟨g, 3, none⟩ = some (.int .i64 m) := (blk_cell K.out 3).trans rfl
              have hcz48_4 : wr.cell? ⟨g, 4, none⟩ = some (.int .i64 a0_4) := (blk_cell K.out 4).trans rfl
              have hfz48_0 := blk_frozen K.out 0
              have hfz48_1 := blk_frozen K.out 1
              have hfz48_2 := blk_frozen K.out 2
              have hfz48_3 := blk_frozen K.out 3
              have hfz48_4 := blk_frozen K.out 4
              have p164 : 0 ≤ (x3_2 : Int) := of_decide_eq_true (by first | (with_reducible assumption) | assumption)
              have q164 : x3_2 < (t0.length : Int) := of_decide_eq_true (by first | (with_reducible assumption) | assumption)
              obtain ⟨ad164, e164, hx164_0, hx164_1, hx164_2, hx164_3, hx164_4, hx164_5, hx164_6, hx164_7, hx164_8, hx164_9, hx164_10, hx164_11, hx164_12, hx164_13, hx164_14, hx164_15⟩ := at_T31 HR0_0.out x3_2 p164 q164
              cases e164
              replace hx164_0 := (HB.out.cell (World.block_lt_of_cell? w _ hx164_0)).trans hx164_0
              replace hx164_1 := (HB.out.cell (World.block_lt_of_cell? w _ hx164_1)).trans hx164_1
              replace hx164_2 := (HB.out.cell (World.block_lt_of_cell? w _ hx164_2)).trans hx164_2
              replace hx164_3 := (HB.out.cell (World.block_lt_of_cell? w _ hx164_3)).trans hx164_3
              replace hx164_4 := (HB.out.cell (World.block_lt_of_cell? w _ hx164_4)).trans hx164_4
              replace hx164_5 := (HB.out.cell (World.block_lt_of_cell? w _ hx164_5)).trans hx164_5
              replace hx164_6 := (HB.out.cell (World.block_lt_of_cell? w _ hx164_6)).trans hx164_6
              replace hx164_7 := (HB.out.cell (World.block_lt_of_cell? w _ hx164_7)).trans hx164_7
              replace hx164_8 := (HB.out.cell (World.block_lt_of_cell? w _ hx164_8)).trans hx164_8
              replace hx164_9 := (HB.out.cell (World.block_lt_of_cell? w _ hx164_9)).trans hx164_9
              replace hx164_10 := (HB.out.cell (World.block_lt_of_cell? w _ hx164_10)).trans hx164_10
              replace hx164_11 := (HB.out.cell (World.block_lt_of_cell? w _ hx164_11)).trans hx164_11
              replace hx164_12 := (HB.out.cell (World.block_lt_of_cell? w _ hx164_12)).trans hx164_12
              replace hx164_13 := (HB.out.cell (World.block_lt_of_cell? w _ hx164_13)).trans hx164_13
              replace hx164_14 := (HB.out.cell (World.block_lt_of_cell? w _ hx164_14)).trans hx164_14
              replace hx164_15 := (HB.out.cell (World.block_lt_of_cell? w _ hx164_15)).trans hx164_15
              replace p164 := eq_true p164
              replace q164 := eq_true q164
              go_wp2_with (first | ((with_reducible refine gate_dst (N := 5) rfl ?_); (try (refine gate_guard (by rfl) ?_; dsimp only)); refine box_event ?hg (N := 5) ?hd (cs := #[.int .i64 0, .int .i64 0, .int .i64 0, .int .i64 0]) (t := 30) ?hr ?_; (case hd => rfl); (case hg => rfl); (case hr => first | (go_simp; done) | (go_simp; rfl)); intro gb165 hg w49 hbox hb; have n0_ := Aside0.mk (blk_below (g := g) (o := .cells #[.slice (some ad164) t0.length c0_0, .slice P1 t1.length c0_1, .slice P2 t2.length c0_2, .int .i64 m, .int .i64 a0_4] 26 (0, 0)) (by (with_reducible repeat (first | refine blk_drewN ?_ _ | refine blk_drew ?_ | refine blk_alloc ?_ _)); exact K.out) hb); have n1_ := Aside0.mk (below_step (by repeat (first | (with_reducible first | exact HB.out | apply below_alloc | apply pw_below_drewN | apply below_drew1 | refine below_set ?_ E.out) | exact HB.out)) hb); have n2_ := Aside0.mk (hbox); have n3_ := Aside0.mk ((by rw [hg]; exact (below_size (by repeat (first | (with_reducible first | exact HB.out | apply below_alloc | apply pw_below_drewN | apply below_drew1 | refine below_set ?_ E.out) | exact HB.out))) : w.heap.size ≤ gb165)); have n4_ := Aside0.mk ((by rw [hg]; exact (below_size (by repeat (first | (with_reducible first | exact HB.out | apply below_alloc | apply pw_below_drewN | apply below_drew1 | refine below_set ?_ E.out) | exact HB.out))) : w.heap.size ≤ gb165)); have n5_ := Aside0.mk ((by rw [hg]; exact Nat.ne_of_lt (blk_lt (g := g) (o := .cells #[.slice (some ad164) t0.length c0_0, .slice P1 t1.length c0_1, .slice P2 t2.length c0_2, .int .i64 m, .int .i64 a0_4] 26 (0, 0)) (by (with_reducible repeat (first | refine blk_drewN ?_ _ | refine blk_drew ?_ | refine blk_alloc ?_ _)); exact K.out)) : g ≠ gb165)); have n6_ := Aside0.mk ((by rw [hg]; exact Nat.ne_of_gt (blk_lt (g := g) (o := .cells #[.slice (some ad164) t0.length c0_0, .slice P1 t1.length c0_1, .slice P2 t2.length c0_2, .int .i64 m, .int .i64 a0_4] 26 (0, 0)) (by (with_reducible repeat (first | refine blk_drewN ?_ _ | refine blk_drew ?_ | refine blk_alloc ?_ _)); exact K.out)) : gb165 ≠ g)); clear K; clear HB; have K := n0_; have HB := n1_; have BK165 := n2_; have GW165 := n3_; have GE165 := n4_; have NB163_165 := n5_; have NB165_163 := n6_; clear n0_ n1_ n2_ n3_ n4_ n5_ n6_; clear hb hbox hg; have hnb50 := NB165_163.out; have hnc50 := NB163_165.out; have hcz51_0 : w49.cell? ⟨gb165, 0, none⟩ = some (.int .i64 0) := (blk_cell BK165.out 0).trans rfl; have hcz51_1 : w49.cell? ⟨gb165, 1, none⟩ = some (.int .i64 0) := (blk_cell BK165.out 1).trans rfl; have hcz51_2 : w49.cell? ⟨gb165, 2, none⟩ = some (.int .i64 0) := (blk_cell BK165.out 2).trans rfl; have hcz51_3 : w49.cell? ⟨gb165, 3, none⟩ = some (.int .i64 0) := (blk_cell BK165.out 3).trans rfl; have hfz51_0 := blk_frozen BK165.out 0; have hfz51_1 := blk_frozen BK165.out 1; have hfz51_2 := blk_frozen BK165.out 2; have hfz51_3 := blk_frozen BK165.out 3))
              go_ret
              exact ⟨by first | rfl | (simp [errW_none, errW_some] <;> rfl) | (simp [*, errW_none, errW_some] <;> rfl), by repeat (first | (with_reducible first | exact HB.out | apply below_alloc | apply pw_below_drewN | apply below_drew1 | refine below_set ?_ E.out | refine below_set ?_ GE165.out) | exact HB.out)⟩
             rw [if_neg c42] at H
             have c42b0 : (((rd_T31 t0 x3_2).f0.f2) == 0) = false := beq_eq_false_iff_ne.mpr c42
             have c42b1 : (((rd_T31 t0 x3_2).f0.f2) != 0) = true := bne_iff_ne.mpr c42
             obtain rfl := Option.some.inj H
             have hcz52_0 : wr.cell? ⟨g, 0, none⟩ = some (.slice P0 t0.length c0_0) := (blk_cell K.out 0).trans rfl
             have hcz52_1 : wr.cell? ⟨g, 1, none⟩ = some (.slice P1 t1.length c0_1) := (blk_cell K.out 1).trans rfl
             have hcz52_2 : wr.cell? ⟨g, 2, none⟩ = some (.slice P2 t2.length c0_2) := (blk_cell K.out 2).trans rfl
             have hcz52_3 : wr.cell? ⟨g, 3, none⟩ = some (.int .i64 m) := (blk_cell K.out 3).trans rfl
             have hcz52_4 : wr.cell? ⟨g, 4, none⟩ = some (.int .i64 a0_4) := (blk_cell K.out 4).trans rfl
             have hfz52_0 := blk_frozen K.out 0
             have hfz52_1 := blk_frozen K.out 1
             have hfz52_2 := blk_frozen K.out 2
             have hfz52_3 := blk_frozen K.out 3
             have hfz52_4 := blk_frozen K.out 4
             have p164 : 0 ≤ (x3_2 : Int) := of_decide_eq_true (by first | (with_reducible assumption) | assumption)
             have q164 : x3_2 < (t0.length : Int) := of_decide_eq_true (by first | (with_reducible assumption) | assumption)
             obtain ⟨ad164, e164, hx164_0, hx164_1, hx164_2, hx164_3, hx164_4, hx164_5, hx164_6, hx164_7, hx164_8, hx164_9, hx164_10, hx164_11, hx164_12, hx164_13, hx164_14, hx164_15⟩ := at_T31 HR0_0.out x3_2 p164 q164
             cases e164
             replace hx164_0 := (HB.out.cell (World.block_lt_of_cell? w _ hx164_0)).trans hx164_0
             replace hx164_1 := (HB.out.cell (World.block_lt_of_cell? w _ hx164_1)).trans hx164_1
             replace hx164_2 := (HB.out.cell (World.block_lt_of_cell? w _ hx164_2)).trans hx164_2
             replace hx164_3 := (HB.out.cell (World.block_lt_of_cell? w _ hx164_3)).trans hx164_3
             replace hx164_4 := (HB.out.cell (World.block_lt_of_cell? w _ hx164_4)).trans hx164_4
             replace hx164_5 := (HB.out.cell (World.block_lt_of_cell? w _ hx164_5)).trans hx164_5
             replace hx164_6 := (HB.out.cell (World.block_lt_of_cell? w _ hx164_6)).trans hx164_6
             replace hx164_7 := (HB.out.cell (World.block_lt_of_cell? w _ hx164_7)).trans hx164_7
             replace hx164_8 := (HB.out.cell (World.block_lt_of_cell? w _ hx164_8)).trans hx164_8
             replace hx164_9 := (HB.out.cell (World.block_lt_of_cell? w _ hx164_9)).trans hx164_9
             replace hx164_10 := (HB.out.cell (World.block_lt_of_cell? w _ hx164_10)).trans hx164_10
             replace hx164_11 := (HB.out.cell (World.block_lt_of_cell? w _ hx164_11)).trans hx164_11
             replace hx164_12 := (HB.out.cell (World.block_lt_of_cell? w _ hx164_12)).trans hx164_12
             replace hx164_13 := (HB.out.cell (World.block_lt_of_cell? w _ hx164_13)).trans hx164_13
             replace hx164_14 := (HB.out.cell (World.block_lt_of_cell? w _ hx164_14)).trans hx164_14
             replace hx164_15 := (HB.out.cell (World.block_lt_of_cell? w _ hx164_15)).trans hx164_15
             replace p164 := eq_true p164
             replace q164 := eq_true q164
             go_wp2_with (first | ((with_reducible refine gate_dst (N := 5) rfl ?_); (try (refine gate_guard (by rfl) ?_; dsimp only)); refine box_event ?hg (N := 5) ?hd (cs := #[.int .i64 0, .int .i64 0, .int .i64 0, .int .i64 0]) (t := 30) ?hr ?_; (case hd => rfl); (case hg => rfl); (case hr => first | (go_simp; done) | (go_simp; rfl)); intro gb165 hg w53 hbox hb; have n0_ := Aside0.mk (blk_below (g := g) (o := .cells #[.slice (some ad164) t0.length c0_0, .slice P1 t1.length c0_1, .slice P2 t2.length c0_2, .int .i64 m, .int .i64 a0_4] 26 (0, 0)) (by (with_reducible repeat (first | refine blk_drewN ?_ _ | refine blk_drew ?_ | refine blk_alloc ?_ _)); exact K.out) hb); have n1_ := Aside0.mk (below_step (by repeat (first | (with_reducible first | exact HB.out | apply below_alloc | apply pw_below_drewN | apply below_drew1 | refine below_set ?_ E.out) | exact HB.out)) hb); have n2_ := Aside0.mk (hbox); have n3_ := Aside0.mk ((by rw [hg]; exact (below_size (by repeat (first | (with_reducible first | exact HB.out | apply below_alloc | apply pw_below_drewN | apply below_drew1 | refine below_set ?_ E.out) | exact HB.out))) : w.heap.size ≤ gb165)); have n4_ := Aside0.mk ((by rw [hg]; exact (below_size (by repeat (first | (with_reducible first | exact HB.out | apply below_alloc | apply pw_below_drewN | apply below_drew1 | refine below_set ?_ E.out) | exact HB.out))) : w.heap.size ≤ gb165)); have n5_ := Aside0.mk ((by rw [hg]; exact Nat.ne_of_lt (blk_lt (g := g) (o := .cells #[.slice (some ad164) t0.length c0_0, .slice P1 t1.length c0_1, .slice P2 t2.length c0_2, .int .i64 m, .int .i64 a0_4] 26 (0, 0)) (by (with_reducible repeat (first | refine blk_drewN ?_ _ | refine blk_drew ?_ | refine blk_alloc ?_ _)); exact K.out)) : g ≠ gb165)); have n6_ := Aside0.mk ((by rw [hg]; exact Nat.ne_of_gt (blk_lt (g := g) (o := .cells #[.slice (some ad164) t0.length c0_0, .slice P1 t1.length c0_1, .slice P2 t2.length c0_2, .int .i64 m, .int .i64 a0_4] 26 (0, 0)) (by (with_reducible repeat (first | refine blk_drewN ?_ _ | refine blk_drew ?_ | refine blk_alloc ?_ _)); exact K.out)) : gb165 ≠ g)); clear K; clear HB; have K := n0_; have HB := n1_; have BK165 := n2_; have GW165 := n3_; have GE165 := n4_; have NB163_165 := n5_; have NB165_163 := n6_; clear n0_ n1_ n2_ n3_ n4_ n5_ n6_; clear hb hbox hg; have hnb54 := NB165_163.out; have hnc54 := NB163_165.out; have hcz55_0 : w53.cell? ⟨gb165, 0, none⟩ = some (.int .i64 0) := (blk_cell BK165.out 0).trans rfl; have hcz55_1 : w53.cell? ⟨gb165, 1, none⟩ = some (.int .i64 0) := (blk_cell BK165.out 1).trans rfl; have hcz55_2 : w53.cell? ⟨gb165, 2, none⟩ = some (.int .i64 0) := (blk_cell BK165.out 2).trans rfl; have hcz55_3 : w53.cell? ⟨gb165, 3, none⟩ = some (.int .i64 0) := (blk_cell BK165.out 3).trans rfl; have hfz55_0 := blk_frozen BK165.out 0; have hfz55_1 := blk_frozen BK165.out 1; have hfz55_2 := blk_frozen BK165.out 2; have hfz55_3 := blk_frozen BK165.out 3))
             go_ret
             exact ⟨by first | rfl | (simp [errW_none, errW_some] <;> rfl) | (simp [*, errW_none, errW_some] <;> rfl), by repeat (first | (with_reducible first | exact HB.out | apply below_alloc | apply pw_below_drewN | apply below_drew1 | refine below_set ?_ E.out | refine below_set ?_ GE165.out) | exact HB.out)⟩
            rw [if_neg c21] at H
            by_cases c56 : x4_3 = 1
            ·subst c56
             have H1 : (if ((rd_T31 t0 x3_2).f1.f0) < 1 then (some false) else (if ((rd_T31 t0 x3_2).f1.f0) > 100000 then (some false) else (if ((rd_T31 t0 x3_2).f1.f1) < 0 then (some false) else (if ((rd_T31 t0 x3_2).f1.f1) > 10000 then (some false) else (if ((rd_T31 t0 x3_2).f1.f2) = 0 then (if ((rd_T31 t0 x3_2).f1.f3) = 0 then (CfR.l1 k3 x3_2 (wrap64 (1 + 1)) t0 t1 t2 m a0_4) else (some false)) else (some false)))))) = some r := by rw [if_pos rfl] at H; exact H
             clear H
             have H := H1
             clear H1
             by_cases c57 : ((rd_T31 t0 x3_2).f1.f0) < 1
             ·rw [if_pos c57] at H
              have c57b0 : decide (((rd_T31 t0 x3_2).f1.f0) < 1) = true := decide_eq_true c57
              clear c57
              obtain rfl := Option.some.inj H
              have hcz58_0 : wr.cell? ⟨g, 0, none⟩ = some (.slice P0 t0.length c0_0) := (blk_cell K.out 0).trans rfl
              have hcz58_1 : wr.cell? ⟨g, 1, none⟩ = some (.slice P1 t1.length c0_1) := (blk_cell K.out 1).trans rfl
              have hcz58_2 : wr.cell? ⟨g, 2, none⟩ = some (.slice P2 t2.length c0_2) := (blk_cell K.out 2).trans rfl
              have hcz58_3 : wr.cell? ⟨g, 3, none⟩ = some (.int .i64 m) := (blk_cell K.out 3).trans rfl
              have hcz58_4 : wr.cell? ⟨g, 4, none⟩ = some (.int .i64 a0_4) := (blk_cell K.out 4).trans rfl
              have hfz58_0 := blk_frozen K.out 0
              have hfz58_1 := blk_frozen K.out 1
              have hfz58_2 := blk_frozen K.out 2
              have hfz58_3 := blk_frozen K.out 3
              have hfz58_4 := blk_frozen K.out 4
              have p164 : 0 ≤ (x3_2 : Int) := of_decide_eq_true (by first | (with_reducible assumption) | assumption)
              have q164 : x3_2 < (t0.length : Int) := of_decide_eq_true (by first | (with_reducible assumption) | assumption)
              obtain ⟨ad164, e164, hx164_0, hx164_1, hx164_2, hx164_3, hx164_4, hx164_5, hx164_6, hx164_7, hx164_8, hx164_9, hx164_10, hx164_11, hx164_12, hx164_13, hx164_14, hx164_15⟩ := at_T31 HR0_0.out x3_2 p164 q164
              cases e164
              replace hx164_0 := (HB.out.cell (World.block_lt_of_cell? w _ hx164_0)).trans hx164_0
              replace hx164_1 := (HB.out.cell (World.block_lt_of_cell? w _ hx164_1)).trans hx164_1
              replace hx164_2 := (HB.out.cell (World.block_lt_of_cell? w _ hx164_2)).trans hx164_2
              replace hx164_3 := (HB.out.cell (World.block_lt_of_cell? w _ hx164_3)).trans hx164_3
              replace hx164_4 := (HB.out.cell (World.block_lt_of_cell? w _ hx164_4)).trans hx164_4
              replace hx164_5 := (HB.out.cell (World.block_lt_of_cell? w _ hx164_5)).trans hx164_5
              replace hx164_6 := (HB.out.cell (World.block_lt_of_cell? w _ hx164_6)).trans hx164_6
              replace hx164_7 := (HB.out.cell (World.block_lt_of_cell? w _ hx164_7)).trans hx164_7
              replace hx164_8 := (HB.out.cell (World.block_lt_of_cell? w _ hx164_8)).trans hx164_8
              replace hx164_9 := (HB.out.cell (World.block_lt_of_cell? w _ hx164_9)).trans hx164_9
              replace hx164_10 := (HB.out.cell (World.block_lt_of_cell? w _ hx164_10)).trans hx164_10
              replace hx164_11 := (HB.out.cell (World.block_lt_of_cell? w _ hx164_11)).trans hx164_11
              replace hx164_12 := (HB.out.cell (World.block_lt_of_cell? w _ hx164_12)).trans hx164_12
              replace hx164_13 := (HB.out.cell (World.block_lt_of_cell? w _ hx164_13)).trans hx164_13
              replace hx164_14 := (HB.out.cell (World.block_lt_of_cell? w _ hx164_14)).trans hx164_14
              replace hx164_15 := (HB.out.cell (World.block_lt_of_cell? w _ hx164_15)).trans hx164_15
              replace p164 := eq_true p164
              replace q164 := eq_true q164
              go_wp2_with (first | ((with_reducible refine gate_dst (N := 5) rfl ?_); (try (refine gate_guard (by rfl) ?_; dsimp only)); refine box_event ?hg (N := 5) ?hd (cs := #[.int .i64 0, .int .i64 0, .int .i64 0, .int .i64 0]) (t := 30) ?hr ?_; (case hd => rfl); (case hg => rfl); (case hr => first | (go_simp; done) | (go_simp; rfl)); intro gb166 hg w59 hbox hb; have n0_ := Aside0.mk (blk_below (g := g) (o := .cells #[.slice (some ad164) t0.length c0_0, .slice P1 t1.length c0_1, .slice P2 t2.length c0_2, .int .i64 m, .int .i64 a0_4] 26 (0, 0)) (by (with_reducible repeat (first | refine blk_drewN ?_ _ | refine blk_drew ?_ | refine blk_alloc ?_ _)); exact K.out) hb); have n1_ := Aside0.mk (below_step (by repeat (first | (with_reducible first | exact HB.out | apply below_alloc | apply pw_below_drewN | apply below_drew1 | refine below_set ?_ E.out) | exact HB.out)) hb); have n2_ := Aside0.mk (hbox); have n3_ := Aside0.mk ((by rw [hg]; exact (below_size (by repeat (first | (with_reducible first | exact HB.out | apply below_alloc | apply pw_below_drewN | apply below_drew1 | refine below_set ?_ E.out) | exact HB.out))) : w.heap.size ≤ gb166)); have n4_ := Aside0.mk ((by rw [hg]; exact (below_size (by repeat (first | (with_reducible first | exact HB.out | apply below_alloc | apply pw_below_drewN | apply below_drew1 | refine below_set ?_ E.out) | exact HB.out))) : w.heap.size ≤ gb166)); have n5_ := Aside0.mk ((by rw [hg]; exact Nat.ne_of_lt (blk_lt (g := g) (o := .cells #[.slice (some ad164) t0.length c0_0, .slice P1 t1.length c0_1, .slice P2 t2.length c0_2, .int .i64 m, .int .i64 a0_4] 26 (0, 0)) (by (with_reducible repeat (first | refine blk_drewN ?_ _ | refine blk_drew ?_ | refine blk_alloc ?_ _)); exact K.out)) : g ≠ gb166)); have n6_ := Aside0.mk ((by rw [hg]; exact Nat.ne_of_gt (blk_lt (g := g) (o := .cells #[.slice (some ad164) t0.length c0_0, .slice P1 t1.length c0_1, .slice P2 t2.length c0_2, .int .i64 m, .int .i64 a0_4] 26 (0, 0)) (by (with_reducible repeat (first | refine blk_drewN ?_ _ | refine blk_drew ?_ | refine blk_alloc ?_ _)); exact K.out)) : gb166 ≠ g)); clear K; clear HB; have K := n0_; have HB := n1_; have BK166 := n2_; have GW166 := n3_; have GE166 := n4_; have NB163_166 := n5_; have NB166_163 := n6_; clear n0_ n1_ n2_ n3_ n4_ n5_ n6_; clear hb hbox hg; have hnb60 := NB166_163.out; have hnc60 := NB163_166.out; have hcz61_0 : w59.cell? ⟨gb166, 0, none⟩ = some (.int .i64 0) := (blk_cell BK166.out 0).trans rfl; have hcz61_1 : w59.cell? ⟨gb166, 1, none⟩ = some (.int .i64 0) := (blk_cell BK166.out 1).trans rfl; have hcz61_2 : w59.cell? ⟨gb166, 2, none⟩ = some (.int .i64 0) := (blk_cell BK166.out 2).trans rfl; have hcz61_3 : w59.cell? ⟨gb166, 3, none⟩ = some (.int .i64 0) := (blk_cell BK166.out 3).trans rfl; have hfz61_0 := blk_frozen BK166.out 0; have hfz61_1 := blk_frozen BK166.out 1; have hfz61_2 := blk_frozen BK166.out 2; have hfz61_3 := blk_frozen BK166.out 3))
              go_ret
              exact ⟨by first | rfl | (simp [errW_none, errW_some] <;> rfl) | (simp [*, errW_none, errW_some] <;> rfl), by repeat (first | (with_reducible first | exact HB.out | apply below_alloc | apply pw_below_drewN | apply below_drew1 | refine below_set ?_ E.out | refine below_set ?_ GE166.out) | exact HB.out)⟩
             rw [if_neg c57] at H
             have c57b0 : decide (((rd_T31 t0 x3_2).f1.f0) < 1) = false := decide_eq_false c57
             clear c57
             by_cases c62 : ((rd_T31 t0 x3_2).f1.f0) > 100000
             ·rw [if_pos c62] at H
              have c62b0 : decide (100000 < ((rd_T31 t0 x3_2).f1.f0)) = true := decide_eq_true c62
              clear c62
              obtain rfl := Option.some.inj H
              have hcz63_0 : wr.cell? ⟨g, 0, none⟩ = some (.slice P0 t0.length c0_0) := (blk_cell K.out 0).trans rfl
              have hcz63_1 : wr.cell? ⟨g, 1, none⟩ = some (.slice P1 t1.length c0_1) := (blk_cell K.out 1).trans rfl
              have hcz63_2 : wr.cell? ⟨g, 2, none⟩ = some (.slice P2 t2.length c0_2) := (blk_cell K.out 2).trans rfl
              have hcz63_3 : wr.cell? ⟨g, 3, none⟩ = some (.int .i64 m) := (blk_cell K.out 3).trans rfl
              have hcz63_4 : wr.cell? ⟨g, 4, none⟩ = some (.int .i64 a0_4) := (blk_cell K.out 4).trans rfl
              have hfz63_0 := blk_frozen K.out 0
              have hfz63_1 := blk_frozen K.out 1
              have hfz63_2 := blk_frozen K.out 2
              have hfz63_3 := blk_frozen K.out 3
              have hfz63_4 := blk_frozen K.out 4
              have p164 : 0 ≤ (x3_2 : Int) := of_decide_eq_true (by first | (with_reducible assumption) | assumption)
              have q164 : x3_2 < (t0.length : Int) := of_decide_eq_true (by first | (with_reducible assumption) | assumption)
              obtain ⟨ad164, e164, hx164_0, hx164_1, hx164_2, hx164_3, hx164_4, hx164_5, hx164_6, hx164_7, hx164_8, hx164_9, hx164_10, hx164_11, hx164_12, hx164_13, hx164_14, hx164_15⟩ := at_T31 HR0_0.out x3_2 p164 q164
              cases e164
              replace hx164_0 := (HB.out.cell (World.block_lt_of_cell? w _ hx164_0)).trans hx164_0
              replace hx164_1 := (HB.out.cell (World.block_lt_of_cell? w _ hx164_1)).trans hx164_1
              replace hx164_2 := (HB.out.cell (World.block_lt_of_cell? w _ hx164_2)).trans hx164_2
              replace hx164_3 := (HB.out.cell (World.block_lt_of_cell? w _ hx164_3)).trans hx164_3
              replace hx164_4 := (HB.out.cell (World.block_lt_of_cell? w _ hx164_4)).trans hx164_4
              replace hx164_5 := (HB.out.cell (World.block_lt_of_cell? w _ hx164_5)).trans hx164_5
              replace hx164_6 := (HB.out.cell (World.block_lt_of_cell? w _ hx164_6)).trans hx164_6
              replace hx164_7 := (HB.out.cell (World.block_lt_of_cell? w _ hx164_7)).trans hx164_7
              replace hx164_8 := (HB.out.cell (World.block_lt_of_cell? w _ hx164_8)).trans hx164_8
              replace hx164_9 := (HB.out.cell (World.block_lt_of_cell? w _ hx164_9)).trans hx164_9
              replace hx164_10 := (HB.out.cell (World.block_lt_of_cell? w _ hx164_10)).trans hx164_10
              replace hx164_11 := (HB.out.cell (World.block_lt_of_cell? w _ hx164_11)).trans hx164_11
              replace hx164_12 := (HB.out.cell (World.block_lt_of_cell? w _ hx164_12)).trans hx164_12
              replace hx164_13 := (HB.out.cell (World.block_lt_of_cell? w _ hx164_13)).trans hx164_13
              replace hx164_14 := (HB.out.cell (World.block_lt_of_cell? w _ hx164_14)).trans hx164_14
              replace hx164_15 := (HB.out.cell (World.block_lt_of_cell? w _ hx164_15)).trans hx164_15
              replace p164 := eq_true p164
              replace q164 := eq_true q164
              go_wp2_with (first | ((with_reducible refine gate_dst (N := 5) rfl ?_); (try (refine gate_guard (by rfl) ?_; dsimp only)); refine box_event ?hg (N := 5) ?hd (cs := #[.int .i64 0, .int .i64 0, .int .i64 0, .int .i64 0]) (t := 30) ?hr ?_; (case hd => rfl); (case hg => rfl); (case hr => first | (go_simp; done) | (go_simp; rfl)); intro gb166 hg w64 hbox hb; have n0_ := Aside0.mk (blk_below (g := g) (o := .cells #[.slice (some ad164) t0.length c0_0, .slice P1 t1.length c0_1, .slice P2 t2.length c0_2, .int .i64 m, .int .i64 a0_4] 26 (0, 0)) (by (with_reducible repeat (first | refine blk_drewN ?_ _ | refine blk_drew ?_ | refine blk_alloc ?_ _)); exact K.out) hb); have n1_ := Aside0.mk (below_step (by repeat (first | (with_reducible first | exact HB.out | apply below_alloc | apply pw_below_drewN | apply below_drew1 | refine below_set ?_ E.out) | exact HB.out)) hb); have n2_ := Aside0.mk (hbox); have n3_ := Aside0.mk ((by rw [hg]; exact (below_size (by repeat (first | (with_reducible first | exact HB.out | apply below_alloc | apply pw_below_drewN | apply below_drew1 | refine below_set ?_ E.out) | exact HB.out))) : w.heap.size ≤ gb166)); have n4_ := Aside0.mk ((by rw [hg]; exact (below_size (by repeat (first | (with_reducible first | exact HB.out | apply below_alloc | apply pw_below_drewN | apply below_drew1 | refine below_set ?_ E.out) | exact HB.out))) : w.heap.size ≤ gb166)); have n5_ := Aside0.mk ((by rw [hg]; exact Nat.ne_of_lt (blk_lt (g := g) (o := .cells #[.slice (some ad164) t0.length c0_0, .slice P1 t1.length c0_1, .slice P2 t2.length c0_2, .int .i64 m, .int .i64 a0_4] 26 (0, 0)) (by (with_reducible repeat (first | refine blk_drewN ?_ _ | refine blk_drew ?_ | refine blk_alloc ?_ _)); exact K.out)) : g ≠ gb166)); have n6_ := Aside0.mk ((by rw [hg]; exact Nat.ne_of_gt (blk_lt (g := g) (o := .cells #[.slice (some ad164) t0.length c0_0, .slice P1 t1.length c0_1, .slice P2 t2.length c0_2, .int .i64 m, .int .i64 a0_4] 26 (0, 0)) (by (with_reducible repeat (first | refine blk_drewN ?_ _ | refine blk_drew ?_ | refine blk_alloc ?_ _)); exact K.out)) : gb166 ≠ g)); clear K; clear HB; have K := n0_; have HB := n1_; have BK166 := n2_; have GW166 := n3_; have GE166 := n4_; have NB163_166 := n5_; have NB166_163 := n6_; clear n0_ n1_ n2_ n3_ n4_ n5_ n6_; clear hb hbox hg; have hnb65 := NB166_163.out; have hnc65 := NB163_166.out; have hcz66_0 : w64.cell? ⟨gb166, 0, none⟩ = some (.int .i64 0) := (blk_cell BK166.out 0).trans rfl; have hcz66_1 : w64.cell? ⟨gb166, 1, none⟩ = some (.int .i64 0) := (blk_cell BK166.out 1).trans rfl; have hcz66_2 : w64.cell? ⟨gb166, 2, none⟩ = some (.int .i64 0) := (blk_cell BK166.out 2).trans rfl; have hcz66_3 : w64.cell? ⟨gb166, 3, none⟩ = some (.int .i64 0) := (blk_cell BK166.out 3).trans rfl; have hfz66_0 := blk_frozen BK166.out 0; have hfz66_1 := blk_frozen BK166.out 1; have hfz66_2 := blk_frozen BK166.out 2; have hfz66_3 := blk_frozen BK166.out 3))
              go_ret
              exact ⟨by first | rfl | (simp [errW_none, errW_some] <;> rfl) | (simp [*, errW_none, errW_some] <;> rfl), by repeat (first | (with_reducible first | exact HB.out | apply below_alloc | apply pw_below_drewN | apply below_drew1 | refine below_set ?_ E.out | refine below_set ?_ GE166.out) | exact HB.out)⟩
             rw [if_neg c62] at H
             have c62b0 : decide (100000 < ((rd_T31 t0 x3_2).f1.f0)) = false := decide_eq_false c62
             clear c62
             by_cases c67 : ((rd_T31 t0 x3_2).f1.f1) < 0
             ·rw [if_pos c67] at H
              have c67b0 : decide (((rd_T31 t0 x3_2).f1.f1) < 0) = true := decide_eq_true c67
              clear c67
              obtain rfl := Option.some.inj H
              have hcz68_0 : wr.cell? ⟨g, 0, none⟩ = some (.slice P0 t0.length c0_0) := (blk_cell K.out 0).trans rfl
              have hcz68_1 : wr.cell? ⟨g, 1, none⟩ = some (.slice P1 t1.length c0_1) := (blk_cell K.out 1).trans rfl
              have hcz68_2 : wr.cell? ⟨g, 2, none⟩ = some (.slice P2 t2.length c0_2) := (blk_cell K.out 2).trans rfl
              have hcz68_3 : wr.cell? ⟨g, 3, none⟩ = some (.int .i64 m) := (blk_cell K.out 3).trans rfl
              have hcz68_4 : wr.cell? ⟨g, 4, none⟩ = some (.int .i64 a0_4) := (blk_cell K.out 4).trans rfl
              have hfz68_0 := blk_frozen K.out 0
              have hfz68_1 := blk_frozen K.out 1
              have hfz68_2 := blk_frozen K.out 2
              have hfz68_3 := blk_frozen K.out 3
              have hfz68_4 := blk_frozen K.out 4
              have p164 : 0 ≤ (x3_2 : Int) := of_decide_eq_true (by first | (with_reducible assumption) | assumption)
              have q164 : x3_2 < (t0.length : Int) := of_decide_eq_true (by first | (with_reducible assumption) | assumption)
              obtain ⟨ad164, e164, hx164_0, hx164_1, hx164_2, hx164_3, hx164_4, hx164_5, hx164_6, hx164_7, hx164_8, hx164_9, hx164_10, hx164_11, hx164_12, hx164_13, hx164_14, hx164_15⟩ := at_T31 HR0_0.out x3_2 p164 q164
              cases e164
              replace hx164_0 := (HB.out.cell (World.block_lt_of_cell? w _ hx164_0)).trans hx164_0
              replace hx164_1 := (HB.out.cell (World.block_lt_of_cell? w _ hx164_1)).trans hx164_1
              replace hx164_2 := (HB.out.cell (World.block_lt_of_cell? w _ hx164_2)).trans hx164_2
              replace hx164_3 := (HB.out.cell (World.block_lt_of_cell? w _ hx164_3)).trans hx164_3
              replace hx164_4 := (HB.out.cell (World.block_lt_of_cell? w _ hx164_4)).trans hx164_4
              replace hx164_5 := (HB.out.cell (World.block_lt_of_cell? w _ hx164_5)).trans hx164_5
              replace hx164_6 := (HB.out.cell (World.block_lt_of_cell? w _ hx164_6)).trans hx164_6
              replace hx164_7 := (HB.out.cell (World.block_lt_of_cell? w _ hx164_7)).trans hx164_7
              replace hx164_8 := (HB.out.cell (World.block_lt_of_cell? w _ hx164_8)).trans hx164_8
              replace hx164_9 := (HB.out.cell (World.block_lt_of_cell? w _ hx164_9)).trans hx164_9
              replace hx164_10 := (HB.out.cell (World.block_lt_of_cell? w _ hx164_10)).trans hx164_10
              replace hx164_11 := (HB.out.cell (World.block_lt_of_cell? w _ hx164_11)).trans hx164_11
              replace hx164_12 := (HB.out.cell (World.block_lt_of_cell? w _ hx164_12)).trans hx164_12
              replace hx164_13 := (HB.out.cell (World.block_lt_of_cell? w _ hx164_13)).trans hx164_13
              replace hx164_14 := (HB.out.cell (World.block_lt_of_cell? w _ hx164_14)).trans hx164_14
              replace hx164_15 := (HB.out.cell (World.block_lt_of_cell? w _ hx164_15)).trans hx164_15
              replace p164 := eq_true p164
              replace q164 := eq_true q164
              go_wp2_with (first | ((with_reducible refine gate_dst (N := 5) rfl ?_); (try (refine gate_guard (by rfl) ?_; dsimp only)); refine box_event ?hg (N := 5) ?hd (cs := #[.int .i64 0, .int .i64 0, .int .i64 0, .int .i64 0]) (t := 30) ?hr ?_; (case hd => rfl); (case hg => rfl); (case hr => first | (go_simp; done) | (go_simp; rfl)); intro gb166 hg w69 hbox hb; have n0_ := Aside0.mk (blk_below (g := g) (o := .cells #[.slice (some ad164) t0.length c0_0, .slice P1 t1.length c0_1, .slice P2 t2.length c0_2, .int .i64 m, .int .i64 a0_4] 26 (0, 0)) (by (with_reducible repeat (first | refine blk_drewN ?_ _ | refine blk_drew ?_ | refine blk_alloc ?_ _)); exact K.out) hb); have n1_ := Aside0.mk (below_step (by repeat (first | (with_reducible first | exact HB.out | apply below_alloc | apply pw_below_drewN | apply below_drew1 | refine below_set ?_ E.out) | exact HB.out)) hb); have n2_ := Aside0.mk (hbox); have n3_ := Aside0.mk ((by rw [hg]; exact (below_size (by repeat (first | (with_reducible first | exact HB.out | apply below_alloc | apply pw_below_drewN | apply below_drew1 | refine below_set ?_ E.out) | exact HB.out))) : w.heap.size ≤ gb166)); have n4_ := Aside0.mk ((by rw [hg]; exact (below_size (by repeat (first | (with_reducible first | exact HB.out | apply below_alloc | apply pw_below_drewN | apply below_drew1 | refine below_set ?_ E.out) | exact HB.out))) : w.heap.size ≤ gb166)); have n5_ := Aside0.mk ((by rw [hg]; exact Nat.ne_of_lt (blk_lt (g := g) (o := .cells #[.slice (some ad164) t0.length c0_0, .slice P1 t1.length c0_1, .slice P2 t2.length c0_2, .int .i64 m, .int .i64 a0_4] 26 (0, 0)) (by (with_reducible repeat (first | refine blk_drewN ?_ _ | refine blk_drew ?_ | refine blk_alloc ?_ _)); exact K.out)) : g ≠ gb166)); have n6_ := Aside0.mk ((by rw [hg]; exact Nat.ne_of_gt (blk_lt (g := g) (o := .cells #[.slice (some ad164) t0.length c0_0, .slice P1 t1.length c0_1, .slice P2 t2.length c0_2, .int .i64 m, .int .i64 a0_4] 26 (0, 0)) (by (with_reducible repeat (first | refine blk_drewN ?_ _ | refine blk_drew ?_ | refine blk_alloc ?_ _)); exact K.out)) : gb166 ≠ g)); clear K; clear HB; have K := n0_; have HB := n1_; have BK166 := n2_; have GW166 := n3_; have GE166 := n4_; have NB163_166 := n5_; have NB166_163 := n6_; clear n0_ n1_ n2_ n3_ n4_ n5_ n6_; clear hb hbox hg; have hnb70 := NB166_163.out; have hnc70 := NB163_166.out; have hcz71_0 : w69.cell? ⟨gb166, 0, none⟩ = some (.int .i64 0) := (blk_cell BK166.out 0).trans rfl; have hcz71_1 : w69.cell? ⟨gb166, 1, none⟩ = some (.int .i64 0) := (blk_cell BK166.out 1).trans rfl; have hcz71_2 : w69.cell? ⟨gb166, 2, none⟩ = some (.int .i64 0) := (blk_cell BK166.out 2).trans rfl; have hcz71_3 : w69.cell? ⟨gb166, 3, none⟩ = some (.int .i64 0) := (blk_cell BK166.out 3).trans rfl; have hfz71_0 := blk_frozen BK166.out 0; have hfz71_1 := blk_frozen BK166.out 1; have hfz71_2 := blk_frozen BK166.out 2; have hfz71_3 := blk_frozen BK166.out 3))
              go_ret
              exact ⟨by first | rfl | (simp [errW_none, errW_some] <;> rfl) | (simp [*, errW_none, errW_some] <;> rfl), by repeat (first | (with_reducible first | exact HB.out | apply below_alloc | apply pw_below_drewN | apply below_drew1 | refine below_set ?_ E.out | refine below_set ?_ GE166.out) | exact HB.out)⟩
             rw [if_neg c67] at H
             have c67b0 : decide (((rd_T31 t0 x3_2).f1.f1) < 0) = false := decide_eq_false c67
             clear c67
             by_cases c72 : ((rd_T31 t0 x3_2).f1.f1) > 10000
             ·rw [if_pos c72] at H
              have c72b0 : decide (10000 < ((rd_T31 t0 x3_2).f1.f1)) = true := decide_eq_true c72
              clear c72
              obtain rfl := Option.some.inj H
              have hcz73_0 : wr.cell? ⟨g, 0, none⟩ = some (.slice P0 t0.length c0_0) := (blk_cell K.out 0).trans rfl
              have hcz73_1 : wr.cell? ⟨g, 1, none⟩ = some (.slice P1 t1.length c0_1) := (blk_cell K.out 1).trans rfl
              have hcz73_2 : wr.cell? ⟨g, 2, none⟩ = some (.slice P2 t2.length c0_2) := (blk_cell K.out 2).trans rfl
              have hcz73_3 : wr.cell? ⟨g, 3, none⟩ = some (.int .i64 m) := (blk_cell K.out 3).trans rfl
              have hcz73_4 : wr.cell? ⟨g, 4, none⟩ = some (.int .i64 a0_4) := (blk_cell K.out 4).trans rfl
              have hfz73_0 := blk_frozen K.out 0
              have hfz73_1 := blk_frozen K.out 1
              have hfz73_2 := blk_frozen K.out 2
              have hfz73_3 := blk_frozen K.out 3
              have hfz73_4 := blk_frozen K.out 4
              have p164 : 0 ≤ (x3_2 : Int) := of_decide_eq_true (by first | (with_reducible assumption) | assumption)
              have q164 : x3_2 < (t0.length : Int) := of_decide_eq_true (by first | (with_reducible assumption) | assumption)
              obtain ⟨ad164, e164, hx164_0, hx164_1, hx164_2, hx164_3, hx164_4, hx164_5, hx164_6, hx164_7, hx164_8, hx164_9, hx164_10, hx164_11, hx164_12, hx164_13, hx164_14, hx164_15⟩ := at_T31 HR0_0.out x3_2 p164 q164
              cases e164
              replace hx164_0 := (HB.out.cell (World.block_lt_of_cell? w _ hx164_0)).trans hx164_0
              replace hx164_1 := (HB.out.cell (World.block_lt_of_cell? w _ hx164_1)).trans hx164_1
              replace hx164_2 := (HB.out.cell (World.block_lt_of_cell? w _ hx164_2)).trans hx164_2
              replace hx164_3 := (HB.out.cell (World.block_lt_of_cell? w _ hx164_3)).trans hx164_3
              replace hx164_4 := (HB.out.cell (World.block_lt_of_cell? w _ hx164_4)).trans hx164_4
              replace hx164_5 := (HB.out.cell (World.block_lt_of_cell? w _ hx164_5)).trans hx164_5
              replace hx164_6 := (HB.out.cell (World.block_lt_of_cell? w _ hx164_6)).trans hx164_6
              replace hx164_7 := (HB.out.cell (World.block_lt_of_cell? w _ hx164_7)).trans hx164_7
              replace hx164_8 := (HB.out.cell (World.block_lt_of_cell? w _ hx164_8)).trans hx164_8
              replace hx164_9 := (HB.out.cell (World.block_lt_of_cell? w _ hx164_9)).trans hx164_9
              replace hx164_10 := (HB.out.cell (World.block_lt_of_cell? w _ hx164_10)).trans hx164_10
              replace hx164_11 := (HB.out.cell (World.block_lt_of_cell? w _ hx164_11)).trans hx164_11
              replace hx164_12 := (HB.out.cell (World.block_lt_of_cell? w _ hx164_12)).trans hx164_12
              replace hx164_13 := (HB.out.cell (World.block_lt_of_cell? w _ hx164_13)).trans hx164_13
              replace hx164_14 := (HB.out.cell (World.block_lt_of_cell? w _ hx164_14)).trans hx164_14
              replace hx164_15 := (HB.out.cell (World.block_lt_of_cell? w _ hx164_15)).trans hx164_15
              replace p164 := eq_true p164
              replace q164 := eq_true q164
              go_wp2_with (first | ((with_reducible refine gate_dst (N := 5) rfl ?_); (try (refine gate_guard (by rfl) ?_; dsimp only)); refine box_event ?hg (N := 5) ?hd (cs := #[.int .i64 0, .int .i64 0, .int .i64 0, .int .i64 0]) (t := 30) ?hr ?_; (case hd => rfl); (case hg => rfl); (case hr => first | (go_simp; done) | (go_simp; rfl)); intro gb166 hg w74 hbox hb; have n0_ := Aside0.mk (blk_below (g := g) (o := .cells #[.slice (some ad164) t0.length c0_0, .slice P1 t1.length c0_1, .slice P2 t2.length c0_2, .int .i64 m, .int .i64 a0_4] 26 (0, 0)) (by (with_reducible repeat (first | refine blk_drewN ?_ _ | refine blk_drew ?_ | refine blk_alloc ?_ _)); exact K.out) hb); have n1_ := Aside0.mk (below_step (by repeat (first | (with_reducible first | exact HB.out | apply below_alloc | apply pw_below_drewN | apply below_drew1 | refine below_set ?_ E.out) | exact HB.out)) hb); have n2_ := Aside0.mk (hbox); have n3_ := Aside0.mk ((by rw [hg]; exact (below_size (by repeat (first | (with_reducible first | exact HB.out | apply below_alloc | apply pw_below_drewN | apply below_drew1 | refine below_set ?_ E.out) | exact HB.out))) : w.heap.size ≤ gb166)); have n4_ := Aside0.mk ((by rw [hg]; exact (below_size (by repeat (first | (with_reducible first | exact HB.out | apply below_alloc | apply pw_below_drewN | apply below_drew1 | refine below_set ?_ E.out) | exact HB.out))) : w.heap.size ≤ gb166)); have n5_ := Aside0.mk ((by rw [hg]; exact Nat.ne_of_lt (blk_lt (g := g) (o := .cells #[.slice (some ad164) t0.length c0_0, .slice P1 t1.length c0_1, .slice P2 t2.length c0_2, .int .i64 m, .int .i64 a0_4] 26 (0, 0)) (by (with_reducible repeat (first | refine blk_drewN ?_ _ | refine blk_drew ?_ | refine blk_alloc ?_ _)); exact K.out)) : g ≠ gb166)); have n6_ := Aside0.mk ((by rw [hg]; exact Nat.ne_of_gt (blk_lt (g := g) (o := .cells #[.slice (some ad164) t0.length c0_0, .slice P1 t1.length c0_1, .slice P2 t2.length c0_2, .int .i64 m, .int .i64 a0_4] 26 (0, 0)) (by (with_reducible repeat (first | refine blk_drewN ?_ _ | refine blk_drew ?_ | refine blk_alloc ?_ _)); exact K.out)) : gb166 ≠ g)); clear K; clear HB; have K := n0_; have HB := n1_; have BK166 := n2_; have GW166 := n3_; have GE166 := n4_; have NB163_166 := n5_; have NB166_163 := n6_; clear n0_ n1_ n2_ n3_ n4_ n5_ n6_; clear hb hbox hg; have hnb75 := NB166_163.out; have hnc75 := NB163_166.out; have hcz76_0 : w74.cell? ⟨gb166, 0, none⟩ = some (.int .i64 0) := (blk_cell BK166.out 0).trans rfl; have hcz76_1 : w74.cell? ⟨gb166, 1, none⟩ = some (.int .i64 0) := (blk_cell BK166.out 1).trans rfl; have hcz76_2 : w74.cell? ⟨gb166, 2, none⟩ = some (.int .i64 0) := (blk_cell BK166.out 2).trans rfl; have hcz76_3 : w74.cell? ⟨gb166, 3, none⟩ = some (.int .i64 0) := (blk_cell BK166.out 3).trans rfl; have hfz76_0 := blk_frozen BK166.out 0; have hfz76_1 := blk_frozen BK166.out 1; have hfz76_2 := blk_frozen BK166.out 2; have hfz76_3 := blk_frozen BK166.out 3))
              go_ret
              exact ⟨by first | rfl | (simp [errW_none, errW_some] <;> rfl) | (simp [*, errW_none, errW_some] <;> rfl), by repeat (first | (with_reducible first | exact HB.out | apply below_alloc | apply pw_below_drewN | apply below_drew1 | refine below_set ?_ E.out | refine below_set ?_ GE166.out) | exact HB.out)⟩
             rw [if_neg c72] at H
             have c72b0 : decide (10000 < ((rd_T31 t0 x3_2).f1.f1)) = false := decide_eq_false c72
             clear c72
             by_cases c77 : ((rd_T31 t0 x3_2).f1.f2) = 0
             ·rw [if_pos c77] at H
              have c77b0 : (((rd_T31 t0 x3_2).f1.f2) == 0) = true := beq_iff_eq.mpr c77
              have c77b1 : (((rd_T31 t0 x3_2).f1.f2) != 0) = false := bne_eq_false_iff_eq.mpr c77
              clear c77
              by_cases c78 : ((rd_T31 t0 x3_2).f1.f3) = 0
              ·rw [if_pos c78] at H
               have c78b0 : (((rd_T31 t0 x3_2).f1.f3) == 0) = true := beq_iff_eq.mpr c78
               have c78b1 : (((rd_T31 t0 x3_2).f1.f3) != 0) = false := bne_eq_false_iff_eq.mpr c78
               clear c78
               have H' := Aside0.mk H
               clear H
               have hcz79_0 : wr.cell? ⟨g, 0, none⟩ = some (.slice P0 t0.length c0_0) := (blk_cell K.out 0).trans rfl
               have hcz79_1 : wr.cell? ⟨g, 1, none⟩ = some (.slice P1 t1.length c0_1) := (blk_cell K.out 1).trans rfl
               have hcz79_2 : wr.cell? ⟨g, 2, none⟩ = some (.slice P2 t2.length c0_2) := (blk_cell K.out 2).trans rfl
               have hcz79_3 : wr.cell? ⟨g, 3, none⟩ = some (.int .i64 m) := (blk_cell K.out 3).trans rfl
               have hcz79_4 : wr.cell? ⟨g, 4, none⟩ = some (.int .i64 a0_4) := (blk_cell K.out 4).trans rfl
               have hfz79_0 := blk_frozen K.out 0
               have hfz79_1 := blk_frozen K.out 1
               have hfz79_2 := blk_frozen K.out 2
               have hfz79_3 := blk_frozen K.out 3
               have hfz79_4 := blk_frozen K.out 4
               have p164 : 0 ≤ (x3_2 : Int) := of_decide_eq_true (by first | (with_reducible assumption) | assumption)
               have q164 : x3_2 < (t0.length : Int) := of_decide_eq_true (by first | (with_reducible assumption) | assumption)
               obtain ⟨ad164, e164, hx164_0, hx164_1, hx164_2, hx164_3, hx164_4, hx164_5, hx164_6, hx164_7, hx164_8, hx164_9, hx164_10, hx164_11, hx164_12, hx164_13, hx164_14, hx164_15⟩ := at_T31 HR0_0.out x3_2 p164 q164
               cases e164
               replace hx164_0 := (HB.out.cell (World.block_lt_of_cell? w _ hx164_0)).trans hx164_0
               replace hx164_1 := (HB.out.cell (World.block_lt_of_cell? w _ hx164_1)).trans hx164_1
               replace hx164_2 := (HB.out.cell (World.block_lt_of_cell? w _ hx164_2)).trans hx164_2
               replace hx164_3 := (HB.out.cell (World.block_lt_of_cell? w _ hx164_3)).trans hx164_3
               replace hx164_4 := (HB.out.cell (World.block_lt_of_cell? w _ hx164_4)).trans hx164_4
               replace hx164_5 := (HB.out.cell (World.block_lt_of_cell? w _ hx164_5)).trans hx164_5
               replace hx164_6 := (HB.out.cell (World.block_lt_of_cell? w _ hx164_6)).trans hx164_6
               replace hx164_7 := (HB.out.cell (World.block_lt_of_cell? w _ hx164_7)).trans hx164_7
               replace hx164_8 := (HB.out.cell (World.block_lt_of_cell? w _ hx164_8)).trans hx164_8
               replace hx164_9 := (HB.out.cell (World.block_lt_of_cell? w _ hx164_9)).trans hx164_9
               replace hx164_10 := (HB.out.cell (World.block_lt_of_cell? w _ hx164_10)).trans hx164_10
               replace hx164_11 := (HB.out.cell (World.block_lt_of_cell? w _ hx164_11)).trans hx164_11
               replace hx164_12 := (HB.out.cell (World.block_lt_of_cell? w _ hx164_12)).trans hx164_12
               replace hx164_13 := (HB.out.cell (World.block_lt_of_cell? w _ hx164_13)).trans hx164_13
               replace hx164_14 := (HB.out.cell (World.block_lt_of_cell? w _ hx164_14)).trans hx164_14
               replace hx164_15 := (HB.out.cell (World.block_lt_of_cell? w _ hx164_15)).trans hx164_15
               replace p164 := eq_true p164
               replace q164 := eq_true q164
               go_wp2_with (first | ((with_reducible refine gate_dst (N := 5) rfl ?_); (try (refine gate_guard (by rfl) ?_; dsimp only)); refine box_event ?hg (N := 5) ?hd (cs := #[.int .i64 0, .int .i64 0, .int .i64 0, .int .i64 0]) (t := 30) ?hr ?_; (case hd => rfl); (case hg => rfl); (case hr => first | (go_simp; done) | (go_simp; rfl)); intro gb166 hg w80 hbox hb; have n0_ := Aside0.mk (blk_below (g := g) (o := .cells #[.slice (some ad164) t0.length c0_0, .slice P1 t1.length c0_1, .slice P2 t2.length c0_2, .int .i64 m, .int .i64 a0_4] 26 (0, 0)) (by (with_reducible repeat (first | refine blk_drewN ?_ _ | refine blk_drew ?_ | refine blk_alloc ?_ _)); exact K.out) hb); have n1_ := Aside0.mk (below_step (by repeat (first | (with_reducible first | exact HB.out | apply below_alloc | apply pw_below_drewN | apply below_drew1 | refine below_set ?_ E.out) | exact HB.out)) hb); have n2_ := Aside0.mk (hbox); have n3_ := Aside0.mk ((by rw [hg]; exact (below_size (by repeat (first | (with_reducible first | exact HB.out | apply below_alloc | apply pw_below_drewN | apply below_drew1 | refine below_set ?_ E.out) | exact HB.out))) : w.heap.size ≤ gb166)); have n4_ := Aside0.mk ((by rw [hg]; exact (below_size (by repeat (first | (with_reducible first | exact HB.out | apply below_alloc | apply pw_below_drewN | apply below_drew1 | refine below_set ?_ E.out) | exact HB.out))) : w.heap.size ≤ gb166)); have n5_ := Aside0.mk ((by rw [hg]; exact Nat.ne_of_lt (blk_lt (g := g) (o := .cells #[.slice (some ad164) t0.length c0_0, .slice P1 t1.length c0_1, .slice P2 t2.length c0_2, .int .i64 m, .int .i64 a0_4] 26 (0, 0)) (by (with_reducible repeat (first | refine blk_drewN ?_ _ | refine blk_drew ?_ | refine blk_alloc ?_ _)); exact K.out)) : g ≠ gb166)); have n6_ := Aside0.mk ((by rw [hg]; exact Nat.ne_of_gt (blk_lt (g := g) (o := .cells #[.slice (some ad164) t0.length c0_0, .slice P1 t1.length c0_1, .slice P2 t2.length c0_2, .int .i64 m, .int .i64 a0_4] 26 (0, 0)) (by (with_reducible repeat (first | refine blk_drewN ?_ _ | refine blk_drew ?_ | refine blk_alloc ?_ _)); exact K.out)) : gb166 ≠ g)); clear K; clear HB; have K := n0_; have HB := n1_; have BK166 := n2_; have GW166 := n3_; have GE166 := n4_; have NB163_166 := n5_; have NB166_163 := n6_; clear n0_ n1_ n2_ n3_ n4_ n5_ n6_; clear hb hbox hg; have hnb81 := NB166_163.out; have hnc81 := NB163_166.out; have hcz82_0 : w80.cell? ⟨gb166, 0, none⟩ = some (.int .i64 0) := (blk_cell BK166.out 0).trans rfl; have hcz82_1 : w80.cell? ⟨gb166, 1, none⟩ = some (.int .i64 0) := (blk_cell BK166.out 1).trans rfl; have hcz82_2 : w80.cell? ⟨gb166, 2, none⟩ = some (.int .i64 0) := (blk_cell BK166.out 2).trans rfl; have hcz82_3 : w80.cell? ⟨gb166, 3, none⟩ = some (.int .i64 0) := (blk_cell BK166.out 3).trans rfl; have hfz82_0 := blk_frozen BK166.out 0; have hfz82_1 := blk_frozen BK166.out 1; have hfz82_2 := blk_frozen BK166.out 2; have hfz82_3 := blk_frozen BK166.out 3))
               go_roundg k3
               case measure => have := HJ1.out; have := HK2.out; have := HK3.out; omega
               case rel => exact ⟨(wrap64 (1 + 1)), (by first | rfl | (simp; done) | (simp [*]; done) | (congr 1; unfold wrap64; omega)), H', ⟨by have := HJ1.out; have := HK2.out; have := HK3.out; omega⟩, ⟨by (with_reducible repeat (first | refine blk_drewN ?_ _ | refine blk_drew ?_ | refine blk_alloc ?_ _)); refine blk_far ?_ NB163_166.out _; (with_reducible repeat (first | refine blk_drewN ?_ _ | refine blk_drew ?_ | refine blk_alloc ?_ _)); refine blk_far ?_ NB163_166.out _; (with_reducible repeat (first | refine blk_drewN ?_ _ | refine blk_drew ?_ | refine blk_alloc ?_ _)); refine blk_far ?_ NB163_166.out _; (with_reducible repeat (first | refine blk_drewN ?_ _ | refine blk_drew ?_ | refine blk_alloc ?_ _)); refine blk_far ?_ NB163_166.out _; (with_reducible repeat (first | refine blk_drewN ?_ _ | refine blk_drew ?_ | refine blk_alloc ?_ _)); exact K.out⟩, ⟨by repeat (first | (with_reducible first | exact HB.out | apply below_alloc | apply pw_below_drewN | apply below_drew1 | refine below_set ?_ E.out | refine below_set ?_ GE166.out) | exact HB.out)⟩⟩
              rw [if_neg c78] at H
              have c78b0 : (((rd_T31 t0 x3_2).f1.f3) == 0) = false := beq_eq_false_iff_ne.mpr c78
              have c78b1 : (((rd_T31 t0 x3_2).f1.f3) != 0) = true := bne_iff_ne.mpr c78
              obtain rfl := Option.some.inj H
              have hcz83_0 : wr.cell? ⟨g, 0, none⟩ = some (.slice P0 t0.length c0_0) := (blk_cell K.out 0).trans rfl
              have hcz83_1 : wr.cell? ⟨g, 1, none⟩ = some (.slice P1 t1.length c0_1) := (blk_cell K.out 1).trans rfl
              have hcz83_2 : wr.cell? ⟨g, 2, none⟩ = some (.slice P2 t2.length c0_2) := (blk_cell K.out 2).trans rfl
              have hcz83_3 : wr.cell? ⟨g, 3, none⟩ = some (.int .i64 m) := (blk_cell K.out 3).trans rfl
              have hcz83_4 : wr.cell? ⟨g, 4, none⟩ = some (.int .i64 a0_4) := (blk_cell K.out 4).trans rfl
              have hfz83_0 := blk_frozen K.out 0
              have hfz83_1 := blk_frozen K.out 1
              have hfz83_2 := blk_frozen K.out 2
              have hfz83_3 := blk_frozen K.out 3
              have hfz83_4 := blk_frozen K.out 4
              have p164 : 0 ≤ (x3_2 : Int) := of_decide_eq_true (by first | (with_reducible assumption) | assumption)
              have q164 : x3_2 < (t0.length : Int) := of_decide_eq_true (by first | (with_reducible assumption) | assumption)
              obtain ⟨ad164, e164, hx164_0, hx164_1, hx164_2, hx164_3, hx164_4, hx164_5, hx164_6, hx164_7, hx164_8, hx164_9, hx164_10, hx164_11, hx164_12, hx164_13, hx164_14, hx164_15⟩ := at_T31 HR0_0.out x3_2 p164 q164
              cases e164
              replace hx164_0 := (HB.out.cell (World.block_lt_of_cell? w _ hx164_0)).trans hx164_0
              replace hx164_1 := (HB.out.cell (World.block_lt_of_cell? w _ hx164_1)).trans hx164_1
              replace hx164_2 := (HB.out.cell (World.block_lt_of_cell? w _ hx164_2)).trans hx164_2
              replace hx164_3 := (HB.out.cell (World.block_lt_of_cell? w _ hx164_3)).trans hx164_3
              replace hx164_4 := (HB.out.cell (World.block_lt_of_cell? w _ hx164_4)).trans hx164_4
              replace hx164_5 := (HB.out.cell (World.block_lt_of_cell? w _ hx164_5)).trans hx164_5
              replace hx164_6 := (HB.out.cell (World.block_lt_of_cell? w _ hx164_6)).trans hx164_6
              replace hx164_7 := (HB.out.cell (World.block_lt_of_cell? w _ hx164_7)).trans hx164_7
              replace hx164_8 := (HB.out.cell (World.block_lt_of_cell? w _ hx164_8)).trans hx164_8
              replace hx164_9 := (HB.out.cell (World.block_lt_of_cell? w _ hx164_9)).trans hx164_9
              replace hx164_10 := (HB.out.cell (World.block_lt_of_cell? w _ hx164_10)).trans hx164_10
              replace hx164_11 := (HB.out.cell (World.block_lt_of_cell? w _ hx164_11)).trans hx164_11
              replace hx164_12 := (HB.out.cell (World.block_lt_of_cell? w _ hx164_12)).trans hx164_12
              replace hx164_13 := (HB.out.cell (World.block_lt_of_cell? w _ hx164_13)).trans hx164_13
              replace hx164_14 := (HB.out.cell (World.block_lt_of_cell? w _ hx164_14)).trans hx164_14
              replace hx164_15 := (HB.out.cell (World.block_lt_of_cell? w _ hx164_15)).trans hx164_15
              replace p164 := eq_true p164
              replace q164 := eq_true q164
              go_wp2_with (first | ((with_reducible refine gate_dst (N := 5) rfl ?_); (try (refine gate_guard (by rfl) ?_; dsimp only)); refine box_event ?hg (N := 5) ?hd (cs := #[.int .i64 0, .int .i64 0, .int .i64 0, .int .i64 0]) (t := 30) ?hr ?_; (case hd => rfl); (case hg => rfl); (case hr => first | (go_simp; done) | (go_simp; rfl)); intro gb166 hg w84 hbox hb; have n0_ := Aside0.mk (blk_below (g := g) (o := .cells #[.slice (some ad164) t0.length c0_0, .slice P1 t1.length c0_1, .slice P2 t2.length c0_2, .int .i64 m, .int .i64 a0_4] 26 (0, 0)) (by (with_reducible repeat (first | refine blk_drewN ?_ _ | refine blk_drew ?_ | refine blk_alloc ?_ _)); exact K.out) hb); have n1_ := Aside0.mk (below_step (by repeat (first | (with_reducible first | exact HB.out | apply below_alloc | apply pw_below_drewN | apply below_drew1 | refine below_set ?_ E.out) | exact HB.out)) hb); have n2_ := Aside0.mk (hbox); have n3_ := Aside0.mk ((by rw [hg]; exact (below_size (by repeat (first | (with_reducible first | exact HB.out | apply below_alloc | apply pw_below_drewN | apply below_drew1 | refine below_set ?_ E.out) | exact HB.out))) : w.heap.size ≤ gb166)); have n4_ := Aside0.mk ((by rw [hg]; exact (below_size (by repeat (first | (with_reducible first | exact HB.out | apply below_alloc | apply pw_below_drewN | apply below_drew1 | refine below_set ?_ E.out) | exact HB.out))) : w.heap.size ≤ gb166)); have n5_ := Aside0.mk ((by rw [hg]; exact Nat.ne_of_lt (blk_lt (g := g) (o := .cells #[.slice (some ad164) t0.length c0_0, .slice P1 t1.length c0_1, .slice P2 t2.length c0_2, .int .i64 m, .int .i64 a0_4] 26 (0, 0)) (by (with_reducible repeat (first | refine blk_drewN ?_ _ | refine blk_drew ?_ | refine blk_alloc ?_ _)); exact K.out)) : g ≠ gb166)); have n6_ := Aside0.mk ((by rw [hg]; exact Nat.ne_of_gt (blk_lt (g := g) (o := .cells #[.slice (some ad164) t0.length c0_0, .slice P1 t1.length c0_1, .slice P2 t2.length c0_2, .int .i64 m, .int .i64 a0_4] 26 (0, 0)) (by (with_reducible repeat (first | refine blk_drewN ?_ _ | refine blk_drew ?_ | refine blk_alloc ?_ _)); exact K.out)) : gb166 ≠ g)); clear K; clear HB; have K := n0_; have HB := n1_; have BK166 := n2_; have GW166 := n3_; have GE166 := n4_; have NB163_166 := n5_; have NB166_163 := n6_; clear n0_ n1_ n2_ n3_ n4_ n5_ n6_; clear hb hbox hg; have hnb85 := NB166_163.out; have hnc85 := NB163_166.out; have hcz86_0 : w84.cell? ⟨gb166, 0, none⟩ = some (.int .i64 0) := (blk_cell BK166.out 0).trans rfl; have hcz86_1 : w84.cell? ⟨gb166, 1, none⟩ = some (.int .i64 0) := (blk_cell BK166.out 1).trans rfl; have hcz86_2 : w84.cell? ⟨gb166, 2, none⟩ = some (.int .i64 0) := (blk_cell BK166.out 2).trans rfl; have hcz86_3 : w84.cell? ⟨gb166, 3, none⟩ = some (.int .i64 0) := (blk_cell BK166.out 3).trans rfl; have hfz86_0 := blk_frozen BK166.out 0; have hfz86_1 := blk_frozen BK166.out 1; have hfz86_2 := blk_frozen BK166.out 2; have hfz86_3 := blk_frozen BK166.out 3))
              go_ret
              exact ⟨by first | rfl | (simp [errW_none, errW_some] <;> rfl) | (simp [*, errW_none, errW_some] <;> rfl), by repeat (first | (with_reducible first | exact HB.out | apply below_alloc | apply pw_below_drewN | apply below_drew1 | refine below_set ?_ E.out | refine below_set ?_ GE166.out) | exact HB.out)⟩
             rw [if_neg c77] at H
             have c77b0 : (((rd_T31 t0 x3_2).f1.f2) == 0) = false := beq_eq_false_iff_ne.mpr c77
             have c77b1 : (((rd_T31 t0 x3_2).f1.f2) != 0) = true := bne_iff_ne.mpr c77
             obtain rfl := Option.some.inj H
             have hcz87_0 : wr.cell? ⟨g, 0, none⟩ = some (.slice P0 t0.length c0_0) := (blk_cell K.out 0).trans rfl
             have hcz87_1 : wr.cell? ⟨g, 1, none⟩ = some (.slice P1 t1.length c0_1) := (blk_cell K.out 1).trans rfl
             have hcz87_2 : wr.cell? ⟨g, 2, none⟩ = some (.slice P2 t2.length c0_2) := (blk_cell K.out 2).trans rfl
             have hcz87_3 : wr.cell? ⟨g, 3, none⟩ = some (.int .i64 m) := (blk_cell K.out 3).trans rfl
             have hcz87_4 : wr.cell? ⟨g, 4, none⟩ = some (.int .i64 a0_4) := (blk_cell K.out 4).trans rfl
             have hfz87_0 := blk_frozen K.out 0
             have hfz87_1 := blk_frozen K.out 1
             have hfz87_2 := blk_frozen K.out 2
             have hfz87_3 := blk_frozen K.out 3
             have hfz87_4 := blk_frozen K.out 4
             have p164 : 0 ≤ (x3_2 : Int) := of_decide_eq_true (by first | (with_reducible assumption) | assumption)
             have q164 : x3_2 < (t0.length : Int) := of_decide_eq_true (by first | (with_reducible assumption) | assumption)
             obtain ⟨ad164, e164, hx164_0, hx164_1, hx164_2, hx164_3, hx164_4, hx164_5, hx164_6, hx164_7, hx164_8, hx164_9, hx164_10, hx164_11, hx164_12, hx164_13, hx164_14, hx164_15⟩ := at_T31 HR0_0.out x3_2 p164 q164
             cases e164
             replace hx164_0 := (HB.out.cell (World.block_lt_of_cell? w _ hx164_0)).trans hx164_0
             replace hx164_1 := (HB.out.cell (World.block_lt_of_cell? w _ hx164_1)).trans hx164_1
             replace hx164_2 := (HB.out.cell (World.block_lt_of_cell? w _ hx164_2)).trans hx164_2
             replace hx164_3 := (HB.out.cell (World.block_lt_of_cell? w _ hx164_3)).trans hx164_3
             replace hx164_4 := (HB.out.cell (World.block_lt_of_cell? w _ hx164_4)).trans hx164_4
             replace hx164_5 := (HB.out.cell (World.block_lt_of_cell? w _ hx164_5)).trans hx164_5
             replace hx164_6 := (HB.out.cell (World.block_lt_of_cell? w _ hx164_6)).trans hx164_6
             replace hx164_7 := (HB.out.cell (World.block_lt_of_cell? w _ hx164_7)).trans hx164_7
             replace hx164_8 := (HB.out.cell (World.block_lt_of_cell? w _ hx164_8)).trans hx164_8
             replace hx164_9 := (HB.out.cell (World.block_lt_of_cell? w _ hx164_9)).trans hx164_9
             replace hx164_10 := (HB.out.cell (World.block_lt_of_cell? w _ hx164_10)).trans hx164_10
             replace hx164_11 := (HB.out.cell (World.block_lt_of_cell? w _ hx164_11)).trans hx164_11
             replace hx164_12 := (HB.out.cell (World.block_lt_of_cell? w _ hx164_12)).trans hx164_12
             replace hx164_13 := (HB.out.cell (World.block_lt_of_cell? w _ hx164_13)).trans hx164_13
             replace hx164_14 := (HB.out.cell (World.block_lt_of_cell? w _ hx164_14)).trans hx164_14
             replace hx164_15 := (HB.out.cell (World.block_lt_of_cell? w _ hx164_15)).trans hx164_15
             replace p164 := eq_true p164
             replace q164 := eq_true q164
             go_wp2_with (first | ((with_reducible refine gate_dst (N := 5) rfl ?_); (try (refine gate_guard (by rfl) ?_; dsimp only)); refine box_event ?hg (N := 5) ?hd (cs := #[.int .i64 0, .int .i64 0, .int .i64 0, .int .i64 0]) (t := 30) ?hr ?_; (case hd => rfl); (case hg => rfl); (case hr => first | (go_simp; done) | (go_simp; rfl)); intro gb166 hg w88 hbox hb; have n0_ := Aside0.mk (blk_below (g := g) (o := .cells #[.slice (some ad164) t0.length c0_0, .slice P1 t1.length c0_1, .slice P2 t2.length c0_2, .int .i64 m, .int .i64 a0_4] 26 (0, 0)) (by (with_reducible repeat (first | refine blk_drewN ?_ _ | refine blk_drew ?_ | refine blk_alloc ?_ _)); exact K.out) hb); have n1_ := Aside0.mk (below_step (by repeat (first | (with_reducible first | exact HB.out | apply below_alloc | apply pw_below_drewN | apply below_drew1 | refine below_set ?_ E.out) | exact HB.out)) hb); have n2_ := Aside0.mk (hbox); have n3_ := Aside0.mk ((by rw [hg]; exact (below_size (by repeat (first | (with_reducible first | exact HB.out | apply below_alloc | apply pw_below_drewN | apply below_drew1 | refine below_set ?_ E.out) | exact HB.out))) : w.heap.size ≤ gb166)); have n4_ := Aside0.mk ((by rw [hg]; exact (below_size (by repeat (first | (with_reducible first | exact HB.out | apply below_alloc | apply pw_below_drewN | apply below_drew1 | refine below_set ?_ E.out) | exact HB.out))) : w.heap.size ≤ gb166)); have n5_ := Aside0.mk ((by rw [hg]; exact Nat.ne_of_lt (blk_lt (g := g) (o := .cells #[.slice (some ad164) t0.length c0_0, .slice P1 t1.length c0_1, .slice P2 t2.length c0_2, .int .i64 m, .int .i64 a0_4] 26 (0, 0)) (by (with_reducible repeat (first | refine blk_drewN ?_ _ | refine blk_drew ?_ | refine blk_alloc ?_ _)); exact K.out)) : g ≠ gb166)); have n6_ := Aside0.mk ((by rw [hg]; exact Nat.ne_of_gt (blk_lt (g := g) (o := .cells #[.slice (some ad164) t0.length c0_0, .slice P1 t1.length c0_1, .slice P2 t2.length c0_2, .int .i64 m, .int .i64 a0_4] 26 (0, 0)) (by (with_reducible repeat (first | refine blk_drewN ?_ _ | refine blk_drew ?_ | refine blk_alloc ?_ _)); exact K.out)) : gb166 ≠ g)); clear K; clear HB; have K := n0_; have HB := n1_; have BK166 := n2_; have GW166 := n3_; have GE166 := n4_; have NB163_166 := n5_; have NB166_163 := n6_; clear n0_ n1_ n2_ n3_ n4_ n5_ n6_; clear hb hbox hg; have hnb89 := NB166_163.out; have hnc89 := NB163_166.out; have hcz90_0 : w88.cell? ⟨gb166, 0, none⟩ = some (.int .i64 0) := (blk_cell BK166.out 0).trans rfl; have hcz90_1 : w88.cell? ⟨gb166, 1, none⟩ = some (.int .i64 0) := (blk_cell BK166.out 1).trans rfl; have hcz90_2 : w88.cell? ⟨gb166, 2, none⟩ = some (.int .i64 0) := (blk_cell BK166.out 2).trans rfl; have hcz90_3 : w88.cell? ⟨gb166, 3, none⟩ = some (.int .i64 0) := (blk_cell BK166.out 3).trans rfl; have hfz90_0 := blk_frozen BK166.out 0; have hfz90_1 := blk_frozen BK166.out 1; have hfz90_2 := blk_frozen BK166.out 2; have hfz90_3 := blk_frozen BK166.out 3))
             go_ret
             exact ⟨by first | rfl | (simp [errW_none, errW_some] <;> rfl) | (simp [*, errW_none, errW_some] <;> rfl), by repeat (first | (with_reducible first | exact HB.out | apply below_alloc | apply pw_below_drewN | apply below_drew1 | refine below_set ?_ E.out | refine below_set ?_ GE166.out) | exact HB.out)⟩
            rw [if_neg c56] at H
            by_cases c91 : x4_3 = 2
            ·subst c91
             have H1 : (if ((rd_T31 t0 x3_2).f2.f0) < 1 then (some false) else (if ((rd_T31 t0 x3_2).f2.f0) > 100000 then (some false) else (if ((rd_T31 t0 x3_2).f2.f1) < 0 then (some false) else (if ((rd_T31 t0 x3_2).f2.f1) > 10000 then (some false) else (if ((rd_T31 t0 x3_2).f2.f2) = 0 then (if ((rd_T31 t0 x3_2).f2.f3) = 0 then (CfR.l1 k3 x3_2 (wrap64 (2 + 1)) t0 t1 t2 m a0_4) else (some false)) else (some false)))))) = some r := by rw [if_pos rfl] at H; exact H
             clear H
             have H := H1
             clear H1
             by_cases c92 : ((rd_T31 t0 x3_2).f2.f0) < 1
             ·rw [if_pos c92] at H
              have c92b0 : decide (((rd_T31 t0 x3_2).f2.f0) < 1) = true := decide_eq_true c92
              clear c92
              obtain rfl := Option.some.inj H
              have hcz93_0 : wr.cell? ⟨g, 0, none⟩ = some (.slice P0 t0.length c0_0) := (blk_cell K.out 0).trans rfl
              have hcz93_1 : wr.cell? ⟨g, 1, none⟩ = some (.slice P1 t1.length c0_1) := (blk_cell K.out 1).trans rfl
              have hcz93_2 : wr.cell? ⟨g, 2, none⟩ = some (.slice P2 t2.length c0_2) := (blk_cell K.out 2).trans rfl
              have hcz93_3 : wr.cell? ⟨g, 3, none⟩ = some (.int .i64 m) := (blk_cell K.out 3).trans rfl
              have hcz93_4 : wr.cell? ⟨g, 4, none⟩ = some (.int .i64 a0_4) := (blk_cell K.out 4).trans rfl
              have hfz93_0 := blk_frozen K.out 0
              have hfz93_1 := blk_frozen K.out 1
              have hfz93_2 := blk_frozen K.out 2
              have hfz93_3 := blk_frozen K.out 3
              have hfz93_4 := blk_frozen K.out 4
              have p164 : 0 ≤ (x3_2 : Int) := of_decide_eq_true (by first | (with_reducible assumption) | assumption)
              have q164 : x3_2 < (t0.length : Int) := of_decide_eq_true (by first | (with_reducible assumption) | assumption)
              obtain ⟨ad164, e164, hx164_0, hx164_1, hx164_2, hx164_3, hx164_4, hx164_5, hx164_6, hx164_7, hx164_8, hx164_9, hx164_10, hx164_11, hx164_12, hx164_13, hx164_14, hx164_15⟩ := at_T31 HR0_0.out x3_2 p164 q164
              cases e164
              replace hx164_0 := (HB.out.cell (World.block_lt_of_cell? w _ hx164_0)).trans hx164_0
              replace hx164_1 := (HB.out.cell (World.block_lt_of_cell? w _ hx164_1)).trans hx164_1
              replace hx164_2 := (HB.out.cell (World.block_lt_of_cell? w _ hx164_2)).trans hx164_2
              replace hx164_3 := (HB.out.cell (World.block_lt_of_cell? w _ hx164_3)).trans hx164_3
              replace hx164_4 := (HB.out.cell (World.block_lt_of_cell? w _ hx164_4)).trans hx164_4
              replace hx164_5 := (HB.out.cell (World.block_lt_of_cell? w _ hx164_5)).trans hx164_5
              replace hx164_6 := (HB.out.cell (World.block_lt_of_cell? w _ hx164_6)).trans hx164_6
              replace hx164_7 := (HB.out.cell (World.block_lt_of_cell? w _ hx164_7)).trans hx164_7
              replace hx164_8 := (HB.out.cell (World.block_lt_of_cell? w _ hx164_8)).trans hx164_8
              replace hx164_9 := (HB.out.cell (World.block_lt_of_cell? w _ hx164_9)).trans hx164_9
              replace hx164_10 := (HB.out.cell (World.block_lt_of_cell? w _ hx164_10)).trans hx164_10
              replace hx164_11 := (HB.out.cell (World.block_lt_of_cell? w _ hx164_11)).trans hx164_11
              replace hx164_12 := (HB.out.cell (World.block_lt_of_cell? w _ hx164_12)).trans hx164_12
              replace hx164_13 := (HB.out.cell (World.block_lt_of_cell? w _ hx164_13)).trans hx164_13
              replace hx164_14 := (HB.out.cell (World.block_lt_of_cell? w _ hx164_14)).trans hx164_14
              replace hx164_15 := (HB.out.cell (World.block_lt_of_cell? w _ hx164_15)).trans hx164_15
              replace p164 := eq_true p164
              replace q164 := eq_true q164
              go_wp2_with (first | ((with_reducible refine gate_dst (N := 5) rfl ?_); (try (refine gate_guard (by rfl) ?_; dsimp only)); refine box_event ?hg (N := 5) ?hd (cs := #[.int .i64 0, .int .i64 0, .int .i64 0, .int .i64 0]) (t := 30) ?hr ?_; (case hd => rfl); (case hg => rfl); (case hr => first | (go_simp; done) | (go_simp; rfl)); intro gb167 hg w94 hbox hb; have n0_ := Aside0.mk (blk_below (g := g) (o := .cells #[.slice (some ad164) t0.length c0_0, .slice P1 t1.length c0_1, .slice P2 t2.length c0_2, .int .i64 m, .int .i64 a0_4] 26 (0, 0)) (by (with_reducible repeat (first | refine blk_drewN ?_ _ | refine blk_drew ?_ | refine blk_alloc ?_ _)); exact K.out) hb); have n1_ := Aside0.mk (below_step (by repeat (first | (with_reducible first | exact HB.out | apply below_alloc | apply pw_below_drewN | apply below_drew1 | refine below_set ?_ E.out) | exact HB.out)) hb); have n2_ := Aside0.mk (hbox); have n3_ := Aside0.mk ((by rw [hg]; exact (below_size (by repeat (first | (with_reducible first | exact HB.out | apply below_alloc | apply pw_below_drewN | apply below_drew1 | refine below_set ?_ E.out) | exact HB.out))) : w.heap.size ≤ gb167)); have n4_ := Aside0.mk ((by rw [hg]; exact (below_size (by repeat (first | (with_reducible first | exact HB.out | apply below_alloc | apply pw_below_drewN | apply below_drew1 | refine below_set ?_ E.out) | exact HB.out))) : w.heap.size ≤ gb167)); have n5_ := Aside0.mk ((by rw [hg]; exact Nat.ne_of_lt (blk_lt (g := g) (o := .cells #[.slice (some ad164) t0.length c0_0, .slice P1 t1.length c0_1, .slice P2 t2.length c0_2, .int .i64 m, .int .i64 a0_4] 26 (0, 0)) (by (with_reducible repeat (first | refine blk_drewN ?_ _ | refine blk_drew ?_ | refine blk_alloc ?_ _)); exact K.out)) : g ≠ gb167)); have n6_ := Aside0.mk ((by rw [hg]; exact Nat.ne_of_gt (blk_lt (g := g) (o := .cells #[.slice (some ad164) t0.length c0_0, .slice P1 t1.length c0_1, .slice P2 t2.length c0_2, .int .i64 m, .int .i64 a0_4] 26 (0, 0)) (by (with_reducible repeat (first | refine blk_drewN ?_ _ | refine blk_drew ?_ | refine blk_alloc ?_ _)); exact K.out)) : gb167 ≠ g)); clear K; clear HB; have K := n0_; have HB := n1_; have BK167 := n2_; have GW167 := n3_; have GE167 := n4_; have NB163_167 := n5_; have NB167_163 := n6_; clear n0_ n1_ n2_ n3_ n4_ n5_ n6_; clear hb hbox hg; have hnb95 := NB167_163.out; have hnc95 := NB163_167.out; have hcz96_0 : w94.cell? ⟨gb167, 0, none⟩ = some (.int .i64 0) := (blk_cell BK167.out 0).trans rfl; have hcz96_1 : w94.cell? ⟨gb167, 1, none⟩ = some (.int .i64 0) := (blk_cell BK167.out 1).trans rfl; have hcz96_2 : w94.cell? ⟨gb167, 2, none⟩ = some (.int .i64 0) := (blk_cell BK167.out 2).trans rfl; have hcz96_3 : w94.cell? ⟨gb167, 3, none⟩ = some (.int .i64 0) := (blk_cell BK167.out 3).trans rfl; have hfz96_0 := blk_frozen BK167.out 0; have hfz96_1 := blk_frozen BK167.out 1; have hfz96_2 := blk_frozen BK167.out 2; have hfz96_3 := blk_frozen BK167.out 3))
              go_ret
              exact ⟨by first | rfl | (simp [errW_none, errW_some] <;> rfl) | (simp [*, errW_none, errW_some] <;> rfl), by repeat (first | (with_reducible first | exact HB.out | apply below_alloc | apply pw_below_drewN | apply below_drew1 | refine below_set ?_ E.out | refine below_set ?_ GE167.out) | exact HB.out)⟩
             rw [if_neg c92] at H
             have c92b0 : decide (((rd_T31 t0 x3_2).f2.f0) < 1) = false := decide_eq_false c92
             clear c92
             by_cases c97 : ((rd_T31 t0 x3_2).f2.f0) > 100000
             ·rw [if_pos c97] at H
              have c97b0 : decide (100000 < ((rd_T31 t0 x3_2).f2.f0)) = true := decide_eq_true c97
              clear c97
              obtain rfl := Option.some.inj H
              have hcz98_0 : wr.cell? ⟨g, 0, none⟩ = some (.slice P0 t0.length c0_0) := (blk_cell K.out 0).trans rfl
              have hcz98_1 : wr.cell? ⟨g, 1, none⟩ = some (.slice P1 t1.length c0_1) := (blk_cell K.out 1).trans rfl
              have hcz98_2 : wr.cell? ⟨g, 2, none⟩ = some (.slice P2 t2.length c0_2) := (blk_cell K.out 2).trans rfl
              have hcz98_3 : wr.cell? ⟨g, 3, none⟩ = some (.int .i64 m) := (blk_cell K.out 3).trans rfl
              have hcz98_4 : wr.cell? ⟨g, 4, none⟩ = some (.int .i64 a0_4) := (blk_cell K.out 4).trans rfl
              have hfz98_0 := blk_frozen K.out 0
              have hfz98_1 := blk_frozen K.out 1
              have hfz98_2 := blk_frozen K.out 2
              have hfz98_3 := blk_frozen K.out 3
              have hfz98_4 := blk_frozen K.out 4
              have p164 : 0 ≤ (x3_2 : Int) := of_decide_eq_true (by first | (with_reducible assumption) | assumption)
              have q164 : x3_2 < (t0.length : Int) := of_decide_eq_true (by first | (with_reducible assumption) | assumption)
              obtain ⟨ad164, e164, hx164_0, hx164_1, hx164_2, hx164_3, hx164_4, hx164_5, hx164_6, hx164_7, hx164_8, hx164_9, hx164_10, hx164_11, hx164_12, hx164_13, hx164_14, hx164_15⟩ := at_T31 HR0_0.out x3_2 p164 q164
              cases e164
              replace hx164_0 := (HB.out.cell (World.block_lt_of_cell? w _ hx164_0)).trans hx164_0
              replace hx164_1 := (HB.out.cell (World.block_lt_of_cell? w _ hx164_1)).trans hx164_1
              replace hx164_2 := (HB.out.cell (World.block_lt_of_cell? w _ hx164_2)).trans hx164_2
              replace hx164_3 := (HB.out.cell (World.block_lt_of_cell? w _ hx164_3)).trans hx164_3
              replace hx164_4 := (HB.out.cell (World.block_lt_of_cell? w _ hx164_4)).trans hx164_4
              replace hx164_5 := (HB.out.cell (World.block_lt_of_cell? w _ hx164_5)).trans hx164_5
              replace hx164_6 := (HB.out.cell (World.block_lt_of_cell? w _ hx164_6)).trans hx164_6
              replace hx164_7 := (HB.out.cell (World.block_lt_of_cell? w _ hx164_7)).trans hx164_7
              replace hx164_8 := (HB.out.cell (World.block_lt_of_cell? w _ hx164_8)).trans hx164_8
              replace hx164_9 := (HB.out.cell (World.block_lt_of_cell? w _ hx164_9)).trans hx164_9
              replace hx164_10 := (HB.out.cell (World.block_lt_of_cell? w _ hx164_10)).trans hx164_10
              replace hx164_11 := (HB.out.cell (World.block_lt_of_cell? w _ hx164_11)).trans hx164_11
              replace hx164_12 := (HB.out.cell (World.block_lt_of_cell? w _ hx164_12)).trans hx164_12
              replace hx164_13 := (HB.out.cell (World.block_lt_of_cell? w _ hx164_13)).trans hx164_13
              replace hx164_14 := (HB.out.cell (World.block_lt_of_cell? w _ hx164_14)).trans hx164_14
              replace hx164_15 := (HB.out.cell (World.block_lt_of_cell? w _ hx164_15)).trans hx164_15
              replace p164 := eq_true p164
              replace q164 := eq_true q164
              go_wp2_with (first | ((with_reducible refine gate_dst (N := 5) rfl ?_); (try (refine gate_guard (by rfl) ?_; dsimp only)); refine box_event ?hg (N := 5) ?hd (cs := #[.int .i64 0, .int .i64 0, .int .i64 0, .int .i64 0]) (t := 30) ?hr ?_; (case hd => rfl); (case hg => rfl); (case hr => first | (go_simp; done) | (go_simp; rfl)); intro gb167 hg w99 hbox hb; have n0_ := Aside0.mk (blk_below (g := g) (o := .cells #[.slice (some ad164) t0.length c0_0, .slice P1 t1.length c0_1, .slice P2 t2.length c0_2, .int .i64 m, .int .i64 a0_4] 26 (0, 0)) (by (with_reducible repeat (first | refine blk_drewN ?_ _ | refine blk_drew ?_ | refine blk_alloc ?_ _)); exact K.out) hb); have n1_ := Aside0.mk (below_step (by repeat (first | (with_reducible first | exact HB.out | apply below_alloc | apply pw_below_drewN | apply below_drew1 | refine below_set ?_ E.out) | exact HB.out)) hb); have n2_ := Aside0.mk (hbox); have n3_ := Aside0.mk ((by rw [hg]; exact (below_size (by repeat (first | (with_reducible first | exact HB.out | apply below_alloc | apply pw_below_drewN | apply below_drew1 | refine below_set ?_ E.out) | exact HB.out))) : w.heap.size ≤ gb167)); have n4_ := Aside0.mk ((by rw [hg]; exact (below_size (by repeat (first | (with_reducible first | exact HB.out | apply below_alloc | apply pw_below_drewN | apply below_drew1 | refine below_set ?_ E.out) | exact HB.out))) : w.heap.size ≤ gb167)); have n5_ := Aside0.mk ((by rw [hg]; exact Nat.ne_of_lt (blk_lt (g := g) (o := .cells #[.slice (some ad164) t0.length c0_0, .slice P1 t1.length c0_1, .slice P2 t2.length c0_2, .int .i64 m, .int .i64 a0_4] 26 (0, 0)) (by (with_reducible repeat (first | refine blk_drewN ?_ _ | refine blk_drew ?_ | refine blk_alloc ?_ _)); exact K.out)) : g ≠ gb167)); have n6_ := Aside0.mk ((by rw [hg]; exact Nat.ne_of_gt (blk_lt (g := g) (o := .cells #[.slice (some ad164) t0.length c0_0, .slice P1 t1.length c0_1, .slice P2 t2.length c0_2, .int .i64 m, .int .i64 a0_4] 26 (0, 0)) (by (with_reducible repeat (first | refine blk_drewN ?_ _ | refine blk_drew ?_ | refine blk_alloc ?_ _)); exact K.out)) : gb167 ≠ g)); clear K; clear HB; have K := n0_; have HB := n1_; have BK167 := n2_; have GW167 := n3_; have GE167 := n4_; have NB163_167 := n5_; have NB167_163 := n6_; clear n0_ n1_ n2_ n3_ n4_ n5_ n6_; clear hb hbox hg; have hnb100 := NB167_163.out; have hnc100 := NB163_167.out; have hcz101_0 : w99.cell? ⟨gb167, 0, none⟩ = some (.int .i64 0) := (blk_cell BK167.out 0).trans rfl; have hcz101_1 : w99.cell? ⟨gb167, 1, none⟩ = some (.int .i64 0) := (blk_cell BK167.out 1).trans rfl; have hcz101_2 : w99.cell? ⟨gb167, 2, none⟩ = some (.int .i64 0) := (blk_cell BK167.out 2).trans rfl; have hcz101_3 : w99.cell? ⟨gb167, 3, none⟩ = some (.int .i64 0) := (blk_cell BK167.out 3).trans rfl; have hfz101_0 := blk_frozen BK167.out 0; have hfz101_1 := blk_frozen BK167.out 1; have hfz101_2 := blk_frozen BK167.out 2; have hfz101_3 := blk_frozen BK167.out 3))
              go_ret
              exact ⟨by first | rfl | (simp [errW_none, errW_some] <;> rfl) | (simp [*, errW_none, errW_some] <;> rfl), by repeat (first | (with_reducible first | exact HB.out | apply below_alloc | apply pw_below_drewN | apply below_drew1 | refine below_set ?_ E.out | refine below_set ?_ GE167.out) | exact HB.out)⟩
             rw [if_neg c97] at H
             have c97b0 : decide (100000 < ((rd_T31 t0 x3_2).f2.f0)) = false := decide_eq_false c97
             clear c97
             by_cases c102 : ((rd_T31 t0 x3_2).f2.f1) < 0
             ·rw [if_pos c102] at H
              have c102b0 : decide (((rd_T31 t0 x3_2).f2.f1) < 0) = true := decide_eq_true c102
              clear c102
              obtain rfl := Option.some.inj H
              have hcz103_0 : wr.cell? ⟨g, 0, none⟩ = some (.slice P0 t0.length c0_0) := (blk_cell K.out 0).trans rfl
              have hcz103_1 : wr.cell? ⟨g, 1, none⟩ = some (.slice P1 t1.length c0_1) := (blk_cell K.out 1).trans rfl
              have hcz103_2 : wr.cell? ⟨g, 2, none⟩ = some (.slice P2 t2.length c0_2) := (blk_cell K.out 2).trans rfl
              have hcz103_3 : wr.cell? ⟨g, 3, none⟩ = some (.int .i64 m) := (blk_cell K.out 3).trans rfl
              have hcz103_4 : wr.cell? ⟨g, 4, none⟩ = some (.int .i64 a0_4) := (blk_cell K.out 4).trans rfl
              have hfz103_0 := blk_frozen K.out 0
              have hfz103_1 := blk_frozen K.out 1
              have hfz103_2 := blk_frozen K.out 2
              have hfz103_3 := blk_frozen K.out 3
              have hfz103_4 := blk_frozen K.out 4
              have p164 : 0 ≤ (x3_2 : Int) := of_decide_eq_true (by first | (with_reducible assumption) | assumption)
              have q164 : x3_2 < (t0.length : Int) := of_decide_eq_true (by first | (with_reducible assumption) | assumption)
              obtain ⟨ad164, e164, hx164_0, hx164_1, hx164_2, hx164_3, hx164_4, hx164_5, hx164_6, hx164_7, hx164_8, hx164_9, hx164_10, hx164_11, hx164_12, hx164_13, hx164_14, hx164_15⟩ := at_T31 HR0_0.out x3_2 p164 q164
              cases e164
              replace hx164_0 := (HB.out.cell (World.block_lt_of_cell? w _ hx164_0)).trans hx164_0
              replace hx164_1 := (HB.out.cell (World.block_lt_of_cell? w _ hx164_1)).trans hx164_1
              replace hx164_2 := (HB.out.cell (World.block_lt_of_cell? w _ hx164_2)).trans hx164_2
              replace hx164_3 := (HB.out.cell (World.block_lt_of_cell? w _ hx164_3)).trans hx164_3
              replace hx164_4 := (HB.out.cell (World.block_lt_of_cell? w _ hx164_4)).trans hx164_4
              replace hx164_5 := (HB.out.cell (World.block_lt_of_cell? w _ hx164_5)).trans hx164_5
              replace hx164_6 := (HB.out.cell (World.block_lt_of_cell? w _ hx164_6)).trans hx164_6
              replace hx164_7 := (HB.out.cell (World.block_lt_of_cell? w _ hx164_7)).trans hx164_7
              replace hx164_8 := (HB.out.cell (World.block_lt_of_cell? w _ hx164_8)).trans hx164_8
              replace hx164_9 := (HB.out.cell (World.block_lt_of_cell? w _ hx164_9)).trans hx164_9
              replace hx164_10 := (HB.out.cell (World.block_lt_of_cell? w _ hx164_10)).trans hx164_10
              replace hx164_11 := (HB.out.cell (World.block_lt_of_cell? w _ hx164_11)).trans hx164_11
              replace hx164_12 := (HB.out.cell (World.block_lt_of_cell? w _ hx164_12)).trans hx164_12
              replace hx164_13 := (HB.out.cell (World.block_lt_of_cell? w _ hx164_13)).trans hx164_13
              replace hx164_14 := (HB.out.cell (World.block_lt_of_cell? w _ hx164_14)).trans hx164_14
              replace hx164_15 := (HB.out.cell (World.block_lt_of_cell? w _ hx164_15)).trans hx164_15
              replace p164 := eq_true p164
              replace q164 := eq_true q164
              go_wp2_with (first | ((with_reducible refine gate_dst (N := 5) rfl ?_); (try (refine gate_guard (by rfl) ?_; dsimp only)); refine box_event ?hg (N := 5) ?hd (cs := #[.int .i64 0, .int .i64 0, .int .i64 0, .int .i64 0]) (t := 30) ?hr ?_; (case hd => rfl); (case hg => rfl); (case hr => first | (go_simp; done) | (go_simp; rfl)); intro gb167 hg w104 hbox hb; have n0_ := Aside0.mk (blk_below (g := g) (o := .cells #[.slice (some ad164) t0.length c0_0, .slice P1 t1.length c0_1, .slice P2 t2.length c0_2, .int .i64 m, .int .i64 a0_4] 26 (0, 0)) (by (with_reducible repeat (first | refine blk_drewN ?_ _ | refine blk_drew ?_ | refine blk_alloc ?_ _)); exact K.out) hb); have n1_ := Aside0.mk (below_step (by repeat (first | (with_reducible first | exact HB.out | apply below_alloc | apply pw_below_drewN | apply below_drew1 | refine below_set ?_ E.out) | exact HB.out)) hb); have n2_ := Aside0.mk (hbox); have n3_ := Aside0.mk ((by rw [hg]; exact (below_size (by repeat (first | (with_reducible first | exact HB.out | apply below_alloc | apply pw_below_drewN | apply below_drew1 | refine below_set ?_ E.out) | exact HB.out))) : w.heap.size ≤ gb167)); have n4_ := Aside0.mk ((by rw [hg]; exact (below_size (by repeat (first | (with_reducible first | exact HB.out | apply below_alloc | apply pw_below_drewN | apply below_drew1 | refine below_set ?_ E.out) | exact HB.out))) : w.heap.size ≤ gb167)); have n5_ := Aside0.mk ((by rw [hg]; exact Nat.ne_of_lt (blk_lt (g := g) (o := .cells #[.slice (some ad164) t0.length c0_0, .slice P1 t1.length c0_1, .slice P2 t2.length c0_2, .int .i64 m, .int .i64 a0_4] 26 (0, 0)) (by (with_reducible repeat (first | refine blk_drewN ?_ _ | refine blk_drew ?_ | refine blk_alloc ?_ _)); exact K.out)) : g ≠ gb167)); have n6_ := Aside0.mk ((by rw [hg]; exact Nat.ne_of_gt (blk_lt (g := g) (o := .cells #[.slice (some ad164) t0.length c0_0, .slice P1 t1.length c0_1, .slice P2 t2.length c0_2, .int .i64 m, .int .i64 a0_4] 26 (0, 0)) (by (with_reducible repeat (first | refine blk_drewN ?_ _ | refine blk_drew ?_ | refine blk_alloc ?_ _)); exact K.out)) : gb167 ≠ g)); clear K; clear HB; have K := n0_; have HB := n1_; have BK167 := n2_; have GW167 := n3_; have GE167 := n4_; have NB163_167 := n5_; have NB167_163 := n6_; clear n0_ n1_ n2_ n3_ n4_ n5_ n6_; clear hb hbox hg; have hnb105 := NB167_163.out; have hnc105 := NB163_167.out; have hcz106_0 : w104.cell? ⟨gb167, 0, none⟩ = some (.int .i64 0) := (blk_cell BK167.out 0).trans rfl; have hcz106_1 : w104.cell? ⟨gb167, 1, none⟩ = some (.int .i64 0) := (blk_cell BK167.out 1).trans rfl; have hcz106_2 : w104.cell? ⟨gb167, 2, none⟩ = some (.int .i64 0) := (blk_cell BK167.out 2).trans rfl; have hcz106_3 : w104.cell? ⟨gb167, 3, none⟩ = some (.int .i64 0) := (blk_cell BK167.out 3).trans rfl; have hfz106_0 := blk_frozen BK167.out 0; have hfz106_1 := blk_frozen BK167.out 1; have hfz106_2 := blk_frozen BK167.out 2; have hfz106_3 := blk_frozen BK167.out 3))
              go_ret
              exact ⟨by first | rfl | (simp [errW_none, errW_some] <;> rfl) | (simp [*, errW_none, errW_some] <;> rfl), by repeat (first | (with_reducible first | exact HB.out | apply below_alloc | apply pw_below_drewN | apply below_drew1 | refine below_set ?_ E.out | refine below_set ?_ GE167.out) | exact HB.out)⟩
             rw [if_neg c102] at H
             have c102b0 : decide (((rd_T31 t0 x3_2).f2.f1) < 0) = false := decide_eq_false c102
             clear c102
             by_cases c107 : ((rd_T31 t0 x3_2).f2.f1) > 10000
             ·rw [if_pos c107] at H
              have c107b0 : decide (10000 < ((rd_T31 t0 x3_2).f2.f1)) = true := decide_eq_true c107
              clear c107
              obtain rfl := Option.some.inj H
              have hcz108_0 : wr.cell? ⟨g, 0, none⟩ = some (.slice P0 t0.length c0_0) := (blk_cell K.out 0).trans rfl
              have hcz108_1 : wr.cell? ⟨g, 1, none⟩ = some (.slice P1 t1.length c0_1) := (blk_cell K.out 1).trans rfl
              have hcz108_2 : wr.cell? ⟨g, 2, none⟩ = some (.slice P2 t2.length c0_2) := (blk_cell K.out 2).trans rfl
              have hcz108_3 : wr.cell? ⟨g, 3, none⟩ = some (.int .i64 m) := (blk_cell K.out 3).trans rfl
              have hcz108_4 : wr.cell? ⟨g, 4, none⟩ = some (.int .i64 a0_4) := (blk_cell K.out 4).trans rfl
              have hfz108_0 := blk_frozen K.out 0
              have hfz108_1 := blk_frozen K.out 1
              have hfz108_2 := blk_frozen K.out 2
              have hfz108_3 := blk_frozen K.out 3
              have hfz108_4 := blk_frozen K.out 4
              have p164 : 0 ≤ (x3_2 : Int) := of_decide_eq_true (by first | (with_reducible assumption) | assumption)
              have q164 : x3_2 < (t0.length : Int) := of_decide_eq_true (by first | (with_reducible assumption) | assumption)
              obtain ⟨ad164, e164, hx164_0, hx164_1, hx164_2, hx164_3, hx164_4, hx164_5, hx164_6, hx164_7, hx164_8, hx164_9, hx164_10, hx164_11, hx164_12, hx164_13, hx164_14, hx164_15⟩ := at_T31 HR0_0.out x3_2 p164 q164
              cases e164
              replace hx164_0 := (HB.out.cell (World.block_lt_of_cell? w _ hx164_0)).trans hx164_0
              replace hx164_1 := (HB.out.cell (World.block_lt_of_cell? w _ hx164_1)).trans hx164_1
              replace hx164_2 := (HB.out.cell (World.block_lt_of_cell? w _ hx164_2)).trans hx164_2
              replace hx164_3 := (HB.out.cell (World.block_lt_of_cell? w _ hx164_3)).trans hx164_3
              replace hx164_4 := (HB.out.cell (World.block_lt_of_cell? w _ hx164_4)).trans hx164_4
              replace hx164_5 := (HB.out.cell (World.block_lt_of_cell? w _ hx164_5)).trans hx164_5
              replace hx164_6 := (HB.out.cell (World.block_lt_of_cell? w _ hx164_6)).trans hx164_6
              replace hx164_7 := (HB.out.cell (World.block_lt_of_cell? w _ hx164_7)).trans hx164_7
              replace hx164_8 := (HB.out.cell (World.block_lt_of_cell? w _ hx164_8)).trans hx164_8
              replace hx164_9 := (HB.out.cell (World.block_lt_of_cell? w _ hx164_9)).trans hx164_9
              replace hx164_10 := (HB.out.cell (World.block_lt_of_cell? w _ hx164_10)).trans hx164_10
              replace hx164_11 := (HB.out.cell (World.block_lt_of_cell? w _ hx164_11)).trans hx164_11
              replace hx164_12 := (HB.out.cell (World.block_lt_of_cell? w _ hx164_12)).trans hx164_12
              replace hx164_13 := (HB.out.cell (World.block_lt_of_cell? w _ hx164_13)).trans hx164_13
              replace hx164_14 := (HB.out.cell (World.block_lt_of_cell? w _ hx164_14)).trans hx164_14
              replace hx164_15 := (HB.out.cell (World.block_lt_of_cell? w _ hx164_15)).trans hx164_15
              replace p164 := eq_true p164
              replace q164 := eq_true q164
              go_wp2_with (first | ((with_reducible refine gate_dst (N := 5) rfl ?_); (try (refine gate_guard (by rfl) ?_; dsimp only)); refine box_event ?hg (N := 5) ?hd (cs := #[.int .i64 0, .int .i64 0, .int .i64 0, .int .i64 0]) (t := 30) ?hr ?_; (case hd => rfl); (case hg => rfl); (case hr => first | (go_simp; done) | (go_simp; rfl)); intro gb167 hg w109 hbox hb; have n0_ := Aside0.mk (blk_below (g := g) (o := .cells #[.slice (some ad164) t0.length c0_0, .slice P1 t1.length c0_1, .slice P2 t2.length c0_2, .int .i64 m, .int .i64 a0_4] 26 (0, 0)) (by (with_reducible repeat (first | refine blk_drewN ?_ _ | refine blk_drew ?_ | refine blk_alloc ?_ _)); exact K.out) hb); have n1_ := Aside0.mk (below_step (by repeat (first | (with_reducible first | exact HB.out | apply below_alloc | apply pw_below_drewN | apply below_drew1 | refine below_set ?_ E.out) | exact HB.out)) hb); have n2_ := Aside0.mk (hbox); have n3_ := Aside0.mk ((by rw [hg]; exact (below_size (by repeat (first | (with_reducible first | exact HB.out | apply below_alloc | apply pw_below_drewN | apply below_drew1 | refine below_set ?_ E.out) | exact HB.out))) : w.heap.size ≤ gb167)); have n4_ := Aside0.mk ((by rw [hg]; exact (below_size (by repeat (first | (with_reducible first | exact HB.out | apply below_alloc | apply pw_below_drewN | apply below_drew1 | refine below_set ?_ E.out) | exact HB.out))) : w.heap.size ≤ gb167)); have n5_ := Aside0.mk ((by rw [hg]; exact Nat.ne_of_lt (blk_lt (g := g) (o := .cells #[.slice (some ad164) t0.length c0_0, .slice P1 t1.length c0_1, .slice P2 t2.length c0_2, .int .i64 m, .int .i64 a0_4] 26 (0, 0)) (by (with_reducible repeat (first | refine blk_drewN ?_ _ | refine blk_drew ?_ | refine blk_alloc ?_ _)); exact K.out)) : g ≠ gb167)); have n6_ := Aside0.mk ((by rw [hg]; exact Nat.ne_of_gt (blk_lt (g := g) (o := .cells #[.slice (some ad164) t0.length c0_0, .slice P1 t1.length c0_1, .slice P2 t2.length c0_2, .int .i64 m, .int .i64 a0_4] 26 (0, 0)) (by (with_reducible repeat (first | refine blk_drewN ?_ _ | refine blk_drew ?_ | refine blk_alloc ?_ _)); exact K.out)) : gb167 ≠ g)); clear K; clear HB; have K := n0_; have HB := n1_; have BK167 := n2_; have GW167 := n3_; have GE167 := n4_; have NB163_167 := n5_; have NB167_163 := n6_; clear n0_ n1_ n2_ n3_ n4_ n5_ n6_; clear hb hbox hg; have hnb110 := NB167_163.out; have hnc110 := NB163_167.out; have hcz111_0 : w109.cell? ⟨gb167, 0, none⟩ = some (.int .i64 0) := (blk_cell BK167.out 0).trans rfl; have hcz111_1 : w109.cell? ⟨gb167, 1, none⟩ = some (.int .i64 0) := (blk_cell BK167.out 1).trans rfl; have hcz111_2 : w109.cell? ⟨gb167, 2, none⟩ = some (.int .i64 0) := (blk_cell BK167.out 2).trans rfl; have hcz111_3 : w109.cell? ⟨gb167, 3, none⟩ = some (.int .i64 0) := (blk_cell BK167.out 3).trans rfl; have hfz111_0 := blk_frozen BK167.out 0; have hfz111_1 := blk_frozen BK167.out 1; have hfz111_2 := blk_frozen BK167.out 2; have hfz111_3 := blk_frozen BK167.out 3))
              go_ret
              exact ⟨by first | rfl | (simp [errW_none, errW_some] <;> rfl) | (simp [*, errW_none, errW_some] <;> rfl), by repeat (first | (with_reducible first | exact HB.out | apply below_alloc | apply pw_below_drewN | apply below_drew1 | refine below_set ?_ E.out | refine below_set ?_ GE167.out) | exact HB.out)⟩
             rw [if_neg c107] at H
             have c107b0 : decide (10000 < ((rd_T31 t0 x3_2).f2.f1)) = false := decide_eq_false c107
             clear c107
             by_cases c112 : ((rd_T31 t0 x3_2).f2.f2) = 0
             ·rw [if_pos c112] at H
              have c112b0 : (((rd_T31 t0 x3_2).f2.f2) == 0) = true := beq_iff_eq.mpr c112
              have c112b1 : (((rd_T31 t0 x3_2).f2.f2) != 0) = false := bne_eq_false_iff_eq.mpr c112
              clear c112
              by_cases c113 : ((rd_T31 t0 x3_2).f2.f3) = 0
              ·rw [if_pos c113] at H
               have c113b0 : (((rd_T31 t0 x3_2).f2.f3) == 0) = true := beq_iff_eq.mpr c113
               have c113b1 : (((rd_T31 t0 x3_2).f2.f3) != 0) = false := bne_eq_false_iff_eq.mpr c113
               clear c113
               have H' := Aside0.mk H
               clear H
               have hcz114_0 : wr.cell? ⟨g, 0, none⟩ = some (.slice P0 t0.length c0_0) := (blk_cell K.out 0).trans rfl
               have hcz114_1 : wr.cell? ⟨g, 1, none⟩ = some (.slice P1 t1.length c0_1) := (blk_cell K.out 1).trans rfl
               have hcz114_2 : wr.cell? ⟨g, 2, none⟩ = some (.slice P2 t2.length c0_2) := (blk_cell K.out 2).trans rfl
               have hcz114_3 : wr.cell? ⟨g, 3, none⟩ = some (.int .i64 m) := (blk_cell K.out 3).trans rfl
               have hcz114_4 : wr.cell? ⟨g, 4, none⟩ = some (.int .i64 a0_4) := (blk_cell K.out 4).trans rfl
               have hfz114_0 := blk_frozen K.out 0
               have hfz114_1 := blk_frozen K.out 1
               have hfz114_2 := blk_frozen K.out 2
               have hfz114_3 := blk_frozen K.out 3
               have hfz114_4 := blk_frozen K.out 4
               have p164 : 0 ≤ (x3_2 : Int) := of_decide_eq_true (by first | (with_reducible assumption) | assumption)
               have q164 : x3_2 < (t0.length : Int) := of_decide_eq_true (by first | (with_reducible assumption) | assumption)
               obtain ⟨ad164, e164, hx164_0, hx164_1, hx164_2, hx164_3, hx164_4, hx164_5, hx164_6, hx164_7, hx164_8, hx164_9, hx164_10, hx164_11, hx164_12, hx164_13, hx164_14, hx164_15⟩ := at_T31 HR0_0.out x3_2 p164 q164
               cases e164
               replace hx164_0 := (HB.out.cell (World.block_lt_of_cell? w _ hx164_0)).trans hx164_0
               replace hx164_1 := (HB.out.cell (World.block_lt_of_cell? w _ hx164_1)).trans hx164_1
               replace hx164_2 := (HB.out.cell (World.block_lt_of_cell? w _ hx164_2)).trans hx164_2
               replace hx164_3 := (HB.out.cell (World.block_lt_of_cell? w _ hx164_3)).trans hx164_3
               replace hx164_4 := (HB.out.cell (World.block_lt_of_cell? w _ hx164_4)).trans hx164_4
               replace hx164_5 := (HB.out.cell (World.block_lt_of_cell? w _ hx164_5)).trans hx164_5
               replace hx164_6 := (HB.out.cell (World.block_lt_of_cell? w _ hx164_6)).trans hx164_6
               replace hx164_7 := (HB.out.cell (World.block_lt_of_cell? w _ hx164_7)).trans hx164_7
               replace hx164_8 := (HB.out.cell (World.block_lt_of_cell? w _ hx164_8)).trans hx164_8
               replace hx164_9 := (HB.out.cell (World.block_lt_of_cell? w _ hx164_9)).trans hx164_9
               replace hx164_10 := (HB.out.cell (World.block_lt_of_cell? w _ hx164_10)).trans hx164_10
               replace hx164_11 := (HB.out.cell (World.block_lt_of_cell? w _ hx164_11)).trans hx164_11
               replace hx164_12 := (HB.out.cell (World.block_lt_of_cell? w _ hx164_12)).trans hx164_12
               replace hx164_13 := (HB.out.cell (World.block_lt_of_cell? w _ hx164_13)).trans hx164_13
               replace hx164_14 := (HB.out.cell (World.block_lt_of_cell? w _ hx164_14)).trans hx164_14
               replace hx164_15 := (HB.out.cell (World.block_lt_of_cell? w _ hx164_15)).trans hx164_15
               replace p164 := eq_true p164
               replace q164 := eq_true q164
               go_wp2_with (first | ((with_reducible refine gate_dst (N := 5) rfl ?_); (try (refine gate_guard (by rfl) ?_; dsimp only)); refine box_event ?hg (N := 5) ?hd (cs := #[.int .i64 0, .int .i64 0, .int .i64 0, .int .i64 0]) (t := 30) ?hr ?_; (case hd => rfl); (case hg => rfl); (case hr => first | (go_simp; done) | (go_simp; rfl)); intro gb167 hg w115 hbox hb; have n0_ := Aside0.mk (blk_below (g := g) (o := .cells #[.slice (some ad164) t0.length c0_0, .slice P1 t1.length c0_1, .slice P2 t2.length c0_2, .int .i64 m, .int .i64 a0_4] 26 (0, 0)) (by (with_reducible repeat (first | refine blk_drewN ?_ _ | refine blk_drew ?_ | refine blk_alloc ?_ _)); exact K.out) hb); have n1_ := Aside0.mk (below_step (by repeat (first | (with_reducible first | exact HB.out | apply below_alloc | apply pw_below_drewN | apply below_drew1 | refine below_set ?_ E.out) | exact HB.out)) hb); have n2_ := Aside0.mk (hbox); have n3_ := Aside0.mk ((by rw [hg]; exact (below_size (by repeat (first | (with_reducible first | exact HB.out | apply below_alloc | apply pw_below_drewN | apply below_drew1 | refine below_set ?_ E.out) | exact HB.out))) : w.heap.size ≤ gb167)); have n4_ := Aside0.mk ((by rw [hg]; exact (below_size (by repeat (first | (with_reducible first | exact HB.out | apply below_alloc | apply pw_below_drewN | apply below_drew1 | refine below_set ?_ E.out) | exact HB.out))) : w.heap.size ≤ gb167)); have n5_ := Aside0.mk ((by rw [hg]; exact Nat.ne_of_lt (blk_lt (g := g) (o := .cells #[.slice (some ad164) t0.length c0_0, .slice P1 t1.length c0_1, .slice P2 t2.length c0_2, .int .i64 m, .int .i64 a0_4] 26 (0, 0)) (by (with_reducible repeat (first | refine blk_drewN ?_ _ | refine blk_drew ?_ | refine blk_alloc ?_ _)); exact K.out)) : g ≠ gb167)); have n6_ := Aside0.mk ((by rw [hg]; exact Nat.ne_of_gt (blk_lt (g := g) (o := .cells #[.slice (some ad164) t0.length c0_0, .slice P1 t1.length c0_1, .slice P2 t2.length c0_2, .int .i64 m, .int .i64 a0_4] 26 (0, 0)) (by (with_reducible repeat (first | refine blk_drewN ?_ _ | refine blk_drew ?_ | refine blk_alloc ?_ _)); exact K.out)) : gb167 ≠ g)); clear K; clear HB; have K := n0_; have HB := n1_; have BK167 := n2_; have GW167 := n3_; have GE167 := n4_; have NB163_167 := n5_; have NB167_163 := n6_; clear n0_ n1_ n2_ n3_ n4_ n5_ n6_; clear hb hbox hg; have hnb116 := NB167_163.out; have hnc116 := NB163_167.out; have hcz117_0 : w115.cell? ⟨gb167, 0, none⟩ = some (.int .i64 0) := (blk_cell BK167.out 0).trans rfl; have hcz117_1 : w115.cell? ⟨gb167, 1, none⟩ = some (.int .i64 0) := (blk_cell BK167.out 1).trans rfl; have hcz117_2 : w115.cell? ⟨gb167, 2, none⟩ = some (.int .i64 0) := (blk_cell BK167.out 2).trans rfl; have hcz117_3 : w115.cell? ⟨gb167, 3, none⟩ = some (.int .i64 0) := (blk_cell BK167.out 3).trans rfl; have hfz117_0 := blk_frozen BK167.out 0; have hfz117_1 := blk_frozen BK167.out 1; have hfz117_2 := blk_frozen BK167.out 2; have hfz117_3 := blk_frozen BK167.out 3))
               go_roundg k3
               case measure => have := HJ1.out; have := HK2.out; have := HK3.out; omega
               case rel => exact ⟨(wrap64 (2 + 1)), (by first | rfl | (simp; done) | (simp [*]; done) | (congr 1; unfold wrap64; omega)), H', ⟨by have := HJ1.out; have := HK2.out; have := HK3.out; omega⟩, ⟨by (with_reducible repeat (first | refine blk_drewN ?_ _ | refine blk_drew ?_ | refine blk_alloc ?_ _)); refine blk_far ?_ NB163_167.out _; (with_reducible repeat (first | refine blk_drewN ?_ _ | refine blk_drew ?_ | refine blk_alloc ?_ _)); refine blk_far ?_ NB163_167.out _; (with_reducible repeat (first | refine blk_drewN ?_ _ | refine blk_drew ?_ | refine blk_alloc ?_ _)); refine blk_far ?_ NB163_167.out _; (with_reducible repeat (first | refine blk_drewN ?_ _ | refine blk_drew ?_ | refine blk_alloc ?_ _)); refine blk_far ?_ NB163_167.out _; (with_reducible repeat (first | refine blk_drewN ?_ _ | refine blk_drew ?_ | refine blk_alloc ?_ _)); exact K.out⟩, ⟨by repeat (first | (with_reducible first | exact HB.out | apply below_alloc | apply pw_below_drewN | apply below_drew1 | refine below_set ?_ E.out | refine below_set ?_ GE167.out) | exact HB.out)⟩⟩
              rw [if_neg c113] at H
              have c113b0 : (((rd_T31 t0 x3_2).f2.f3) == 0) = false := beq_eq_false_iff_ne.mpr c113
              have c113b1 : (((rd_T31 t0 x3_2).f2.f3) != 0) = true := bne_iff_ne.mpr c113
              obtain rfl := Option.some.inj H
              have hcz118_0 : wr.cell? ⟨g, 0, none⟩ = some (.slice P0 t0.length c0_0) := (blk_cell K.out 0).trans rfl
              have hcz118_1 : wr.cell? ⟨g, 1, none⟩ = some (.slice P1 t1.length c0_1) := (blk_cell K.out 1).trans rfl
              have hcz118_2 : wr.cell? ⟨g, 2, none⟩ = some (.slice P2 t2.length c0_2) := (blk_cell K.out 2).trans rfl
              have hcz118_3 : wr.cell? ⟨g, 3, none⟩ = some (.int .i64 m) := (blk_cell K.out 3).trans rfl
              have hcz118_4 : wr.cell? ⟨g, 4, none⟩ = some (.int .i64 a0_4) := (blk_cell K.out 4).trans rfl
              have hfz118_0 := blk_frozen K.out 0
              have hfz118_1 := blk_frozen K.out 1
              have hfz118_2 := blk_frozen K.out 2
              have hfz118_3 := blk_frozen K.out 3
              have hfz118_4 := blk_frozen K.out 4
              have p164 : 0 ≤ (x3_2 : Int) := of_decide_eq_true (by first | (with_reducible assumption) | assumption)
              have q164 : x3_2 < (t0.length : Int) := of_decide_eq_true (by first | (with_reducible assumption) | assumption)
              obtain ⟨ad164, e164, hx164_0, hx164_1, hx164_2, hx164_3, hx164_4, hx164_5, hx164_6, hx164_7, hx164_8, hx164_9, hx164_10, hx164_11, hx164_12, hx164_13, hx164_14, hx164_15⟩ := at_T31 HR0_0.out x3_2 p164 q164
              cases e164
              replace hx164_0 := (HB.out.cell (World.block_lt_of_cell? w _ hx164_0)).trans hx164_0
              replace hx164_1 := (HB.out.cell (World.block_lt_of_cell? w _ hx164_1)).trans hx164_1
              replace hx164_2 := (HB.out.cell (World.block_lt_of_cell? w _ hx164_2)).trans hx164_2
              replace hx164_3 := (HB.out.cell (World.block_lt_of_cell? w _ hx164_3)).trans hx164_3
              replace hx164_4 := (HB.out.cell (World.block_lt_of_cell? w _ hx164_4)).trans hx164_4
              replace hx164_5 := (HB.out.cell (World.block_lt_of_cell? w _ hx164_5)).trans hx164_5
              replace hx164_6 := (HB.out.cell (World.block_lt_of_cell? w _ hx164_6)).trans hx164_6
              replace hx164_7 := (HB.out.cell (World.block_lt_of_cell? w _ hx164_7)).trans hx164_7
              replace hx164_8 := (HB.out.cell (World.block_lt_of_cell? w _ hx164_8)).trans hx164_8
              replace hx164_9 := (HB.out.cell (World.block_lt_of_cell? w _ hx164_9)).trans hx164_9
              replace hx164_10 := (HB.out.cell (World.block_lt_of_cell? w _ hx164_10)).trans hx164_10
              replace hx164_11 := (HB.out.cell (World.block_lt_of_cell? w _ hx164_11)).trans hx164_11
              replace hx164_12 := (HB.out.cell (World.block_lt_of_cell? w _ hx164_12)).trans hx164_12
              replace hx164_13 := (HB.out.cell (World.block_lt_of_cell? w _ hx164_13)).trans hx164_13
              replace hx164_14 := (HB.out.cell (World.block_lt_of_cell? w _ hx164_14)).trans hx164_14
              replace hx164_15 := (HB.out.cell (World.block_lt_of_cell? w _ hx164_15)).trans hx164_15
              replace p164 := eq_true p164
              replace q164 := eq_true q164
              go_wp2_with (first | ((with_reducible refine gate_dst (N := 5) rfl ?_); (try (refine gate_guard (by rfl) ?_; dsimp only)); refine box_event ?hg (N := 5) ?hd (cs := #[.int .i64 0, .int .i64 0, .int .i64 0, .int .i64 0]) (t := 30) ?hr ?_; (case hd => rfl); (case hg => rfl); (case hr => first | (go_simp; done) | (go_simp; rfl)); intro gb167 hg w119 hbox hb; have n0_ := Aside0.mk (blk_below (g := g) (o := .cells #[.slice (some ad164) t0.length c0_0, .slice P1 t1.length c0_1, .slice P2 t2.length c0_2, .int .i64 m, .int .i64 a0_4] 26 (0, 0)) (by (with_reducible repeat (first | refine blk_drewN ?_ _ | refine blk_drew ?_ | refine blk_alloc ?_ _)); exact K.out) hb); have n1_ := Aside0.mk (below_step (by repeat (first | (with_reducible first | exact HB.out | apply below_alloc | apply pw_below_drewN | apply below_drew1 | refine below_set ?_ E.out) | exact HB.out)) hb); have n2_ := Aside0.mk (hbox); have n3_ := Aside0.mk ((by rw [hg]; exact (below_size (by repeat (first | (with_reducible first | exact HB.out | apply below_alloc | apply pw_below_drewN | apply below_drew1 | refine below_set ?_ E.out) | exact HB.out))) : w.heap.size ≤ gb167)); have n4_ := Aside0.mk ((by rw [hg]; exact (below_size (by repeat (first | (with_reducible first | exact HB.out | apply below_alloc | apply pw_below_drewN | apply below_drew1 | refine below_set ?_ E.out) | exact HB.out))) : w.heap.size ≤ gb167)); have n5_ := Aside0.mk ((by rw [hg]; exact Nat.ne_of_lt (blk_lt (g := g) (o := .cells #[.slice (some ad164) t0.length c0_0, .slice P1 t1.length c0_1, .slice P2 t2.length c0_2, .int .i64 m, .int .i64 a0_4] 26 (0, 0)) (by (with_reducible repeat (first | refine blk_drewN ?_ _ | refine blk_drew ?_ | refine blk_alloc ?_ _)); exact K.out)) : g ≠ gb167)); have n6_ := Aside0.mk ((by rw [hg]; exact Nat.ne_of_gt (blk_lt (g := g) (o := .cells #[.slice (some ad164) t0.length c0_0, .slice P1 t1.length c0_1, .slice P2 t2.length c0_2, .int .i64 m, .int .i64 a0_4] 26 (0, 0)) (by (with_reducible repeat (first | refine blk_drewN ?_ _ | refine blk_drew ?_ | refine blk_alloc ?_ _)); exact K.out)) : gb167 ≠ g)); clear K; clear HB; have K := n0_; have HB := n1_; have BK167 := n2_; have GW167 := n3_; have GE167 := n4_; have NB163_167 := n5_; have NB167_163 := n6_; clear n0_ n1_ n2_ n3_ n4_ n5_ n6_; clear hb hbox hg; have hnb120 := NB167_163.out; have hnc120 := NB163_167.out; have hcz121_0 : w119.cell? ⟨gb167, 0, none⟩ = some (.int .i64 0) := (blk_cell BK167.out 0).trans rfl; have hcz121_1 : w119.cell? ⟨gb167, 1, none⟩ = some (.int .i64 0) := (blk_cell BK167.out 1).trans rfl; have hcz121_2 : w119.cell? ⟨gb167, 2, none⟩ = some (.int .i64 0) := (blk_cell BK167.out 2).trans rfl; have hcz121_3 : w119.cell? ⟨gb167, 3, none⟩ = some (.int .i64 0) := (blk_cell BK167.out 3).trans rfl; have hfz121_0 := blk_frozen BK167.out 0; have hfz121_1 := blk_frozen BK167.out 1; have hfz121_2 := blk_frozen BK167.out 2; have hfz121_3 := blk_frozen BK167.out 3))
              go_ret
              exact ⟨by first | rfl | (simp [errW_none, errW_some] <;> rfl) | (simp [*, errW_none, errW_some] <;> rfl), by repeat (first | (with_reducible first | exact HB.out | apply below_alloc | apply pw_below_drewN | apply below_drew1 | refine below_set ?_ E.out | refine below_set ?_ GE167.out) | exact HB.out)⟩
             rw [if_neg c112] at H
             have c112b0 : (((rd_T31 t0 x3_2).f2.f2) == 0) = false := beq_eq_false_iff_ne.mpr c112
             have c112b1 : (((rd_T31 t0 x3_2).f2.f2) != 0) = true := bne_iff_ne.mpr c112
             obtain rfl := Option.some.inj H
             have hcz122_0 : wr.cell? ⟨g, 0, none⟩ = some (.slice P0 t0.length c0_0) := (blk_cell K.out 0).trans rfl
             have hcz122_1 : wr.cell? ⟨g, 1, none⟩ = some (.slice P1 t1.length c0_1) := (blk_cell K.out 1).trans rfl
             have hcz122_2 : wr.cell? ⟨g, 2, none⟩ = some (.slice P2 t2.length c0_2) := (blk_cell K.out 2).trans rfl
             have hcz122_3 : wr.cell? ⟨g, 3, none⟩ = some (.int .i64 m) := (blk_cell K.out 3).trans rfl
             have hcz122_4 : wr.cell? ⟨g, 4, none⟩ = some (.int .i64 a0_4) := (blk_cell K.out 4).trans rfl
             have hfz122_0 := blk_frozen K.out 0
             have hfz122_1 := blk_frozen K.out 1
             have hfz122_2 := blk_frozen K.out 2
             have hfz122_3 := blk_frozen K.out 3
             have hfz122_4 := blk_frozen K.out 4
             have p164 : 0 ≤ (x3_2 : Int) := of_decide_eq_true (by first | (with_reducible assumption) | assumption)
             have q164 : x3_2 < (t0.length : Int) := of_decide_eq_true (by first | (with_reducible assumption) | assumption)
             obtain ⟨ad164, e164, hx164_0, hx164_1, hx164_2, hx164_3, hx164_4, hx164_5, hx164_6, hx164_7, hx164_8, hx164_9, hx164_10, hx164_11, hx164_12, hx164_13, hx164_14, hx164_15⟩ := at_T31 HR0_0.out x3_2 p164 q164
             cases e164
             replace hx164_0 := (HB.out.cell (World.block_lt_of_cell? w _ hx164_0)).trans hx164_0
             replace hx164_1 := (HB.out.cell (World.block_lt_of_cell? w _ hx164_1)).trans hx164_1
             replace hx164_2 := (HB.out.cell (World.block_lt_of_cell? w _ hx164_2)).trans hx164_2
             replace hx164_3 := (HB.out.cell (World.block_lt_of_cell? w _ hx164_3)).trans hx164_3
             replace hx164_4 := (HB.out.cell (World.block_lt_of_cell? w _ hx164_4)).trans hx164_4
             replace hx164_5 := (HB.out.cell (World.block_lt_of_cell? w _ hx164_5)).trans hx164_5
             replace hx164_6 := (HB.out.cell (World.block_lt_of_cell? w _ hx164_6)).trans hx164_6
             replace hx164_7 := (HB.out.cell (World.block_lt_of_cell? w _ hx164_7)).trans hx164_7
             replace hx164_8 := (HB.out.cell (World.block_lt_of_cell? w _ hx164_8)).trans hx164_8
             replace hx164_9 := (HB.out.cell (World.block_lt_of_cell? w _ hx164_9)).trans hx164_9
             replace hx164_10 := (HB.out.cell (World.block_lt_of_cell? w _ hx164_10)).trans hx164_10
             replace hx164_11 := (HB.out.cell (World.block_lt_of_cell? w _ hx164_11)).trans hx164_11
             replace hx164_12 := (HB.out.cell (World.block_lt_of_cell? w _ hx164_12)).trans hx164_12
             replace hx164_13 := (HB.out.cell (World.block_lt_of_cell? w _ hx164_13)).trans hx164_13
             replace hx164_14 := (HB.out.cell (World.block_lt_of_cell? w _ hx164_14)).trans hx164_14
             replace hx164_15 := (HB.out.cell (World.block_lt_of_cell? w _ hx164_15)).trans hx164_15
             replace p164 := eq_true p164
             replace q164 := eq_true q164
             go_wp2_with (first | ((with_reducible refine gate_dst (N := 5) rfl ?_); (try (refine gate_guard (by rfl) ?_; dsimp only)); refine box_event ?hg (N := 5) ?hd (cs := #[.int .i64 0, .int .i64 0, .int .i64 0, .int .i64 0]) (t := 30) ?hr ?_; (case hd => rfl); (case hg => rfl); (case hr => first | (go_simp; done) | (go_simp; rfl)); intro gb167 hg w123 hbox hb; have n0_ := Aside0.mk (blk_below (g := g) (o := .cells #[.slice (some ad164) t0.length c0_0, .slice P1 t1.length c0_1, .slice P2 t2.length c0_2, .int .i64 m, .int .i64 a0_4] 26 (0, 0)) (by (with_reducible repeat (first | refine blk_drewN ?_ _ | refine blk_drew ?_ | refine blk_alloc ?_ _)); exact K.out) hb); have n1_ := Aside0.mk (below_step (by repeat (first | (with_reducible first | exact HB.out | apply below_alloc | apply pw_below_drewN | apply below_drew1 | refine below_set ?_ E.out) | exact HB.out)) hb); have n2_ := Aside0.mk (hbox); have n3_ := Aside0.mk ((by rw [hg]; exact (below_size (by repeat (first | (with_reducible first | exact HB.out | apply below_alloc | apply pw_below_drewN | apply below_drew1 | refine below_set ?_ E.out) | exact HB.out))) : w.heap.size ≤ gb167)); have n4_ := Aside0.mk ((by rw [hg]; exact (below_size (by repeat (first | (with_reducible first | exact HB.out | apply below_alloc | apply pw_below_drewN | apply below_drew1 | refine below_set ?_ E.out) | exact HB.out))) : w.heap.size ≤ gb167)); have n5_ := Aside0.mk ((by rw [hg]; exact Nat.ne_of_lt (blk_lt (g := g) (o := .cells #[.slice (some ad164) t0.length c0_0, .slice P1 t1.length c0_1, .slice P2 t2.length c0_2, .int .i64 m, .int .i64 a0_4] 26 (0, 0)) (by (with_reducible repeat (first | refine blk_drewN ?_ _ | refine blk_drew ?_ | refine blk_alloc ?_ _)); exact K.out)) : g ≠ gb167)); have n6_ := Aside0.mk ((by rw [hg]; exact Nat.ne_of_gt (blk_lt (g := g) (o := .cells #[.slice (some ad164) t0.length c0_0, .slice P1 t1.length c0_1, .slice P2 t2.length c0_2, .int .i64 m, .int .i64 a0_4] 26 (0, 0)) (by (with_reducible repeat (first | refine blk_drewN ?_ _ | refine blk_drew ?_ | refine blk_alloc ?_ _)); exact K.out)) : gb167 ≠ g)); clear K; clear HB; have K := n0_; have HB := n1_; have BK167 := n2_; have GW167 := n3_; have GE167 := n4_; have NB163_167 := n5_; have NB167_163 := n6_; clear n0_ n1_ n2_ n3_ n4_ n5_ n6_; clear hb hbox hg; have hnb124 := NB167_163.out; have hnc124 := NB163_167.out; have hcz125_0 : w123.cell? ⟨gb167, 0, none⟩ = some (.int .i64 0) := (blk_cell BK167.out 0).trans rfl; have hcz125_1 : w123.cell? ⟨gb167, 1, none⟩ = some (.int .i64 0) := (blk_cell BK167.out 1).trans rfl; have hcz125_2 : w123.cell? ⟨gb167, 2, none⟩ = some (.int .i64 0) := (blk_cell BK167.out 2).trans rfl; have hcz125_3 : w123.cell? ⟨gb167, 3, none⟩ = some (.int .i64 0) := (blk_cell BK167.out 3).trans rfl; have hfz125_0 := blk_frozen BK167.out 0; have hfz125_1 := blk_frozen BK167.out 1; have hfz125_2 := blk_frozen BK167.out 2; have hfz125_3 := blk_frozen BK167.out 3))
             go_ret
             exact ⟨by first | rfl | (simp [errW_none, errW_some] <;> rfl) | (simp [*, errW_none, errW_some] <;> rfl), by repeat (first | (with_reducible first | exact HB.out | apply below_alloc | apply pw_below_drewN | apply below_drew1 | refine below_set ?_ E.out | refine below_set ?_ GE167.out) | exact HB.out)⟩
            rw [if_neg c91] at H
            by_cases c126 : x4_3 = 3
            ·subst c126
             have H1 : (if ((rd_T31 t0 x3_2).f3.f0) < 1 then (some false) else (if ((rd_T31 t0 x3_2).f3.f0) > 100000 then (some false) else (if ((rd_T31 t0 x3_2).f3.f1) < 0 then (some false) else (if ((rd_T31 t0 x3_2).f3.f1) > 10000 then (some false) else (if ((rd_T31 t0 x3_2).f3.f2) = 0 then (if ((rd_T31 t0 x3_2).f3.f3) = 0 then (CfR.l1 k3 x3_2 (wrap64 (3 + 1)) t0 t1 t2 m a0_4) else (some false)) else (some false)))))) = some r := by rw [if_pos rfl] at H; exact H
             clear H
             have H := H1
             clear H1
             by_cases c127 : ((rd_T31 t0 x3_2).f3.f0) < 1
             ·rw [if_pos c127] at H
              have c127b0 : decide (((rd_T31 t0 x3_2).f3.f0) < 1) = true := decide_eq_true c127
              clear c127
              obtain rfl := Option.some.inj H
              have hcz128_0 : wr.cell? ⟨g, 0, none⟩ = some (.slice P0 t0.length c0_0) := (blk_cell K.out 0).trans rfl
              have hcz128_1 : wr.cell? ⟨g, 1, none⟩ = some (.slice P1 t1.length c0_1) := (blk_cell K.out 1).trans rfl
              have hcz128_2 : wr.cell? ⟨g, 2, none⟩ = some (.slice P2 t2.length c0_2) := (blk_cell K.out 2).trans rfl
              have hcz128_3 : wr.cell? ⟨g, 3, none⟩ = some (.int .i64 m) := (blk_cell K.out 3).trans rfl
              have hcz128_4 : wr.cell? ⟨g, 4, none⟩ = some (.int .i64 a0_4) := (blk_cell K.out 4).trans rfl
              have hfz128_0 := blk_frozen K.out 0
              have hfz128_1 := blk_frozen K.out 1
              have hfz128_2 := blk_frozen K.out 2
              have hfz128_3 := blk_frozen K.out 3
              have hfz128_4 := blk_frozen K.out 4
              have p164 : 0 ≤ (x3_2 : Int) := of_decide_eq_true (by first | (with_reducible assumption) | assumption)
              have q164 : x3_2 < (t0.length : Int) := of_decide_eq_true (by first | (with_reducible assumption) | assumption)
              obtain ⟨ad164, e164, hx164_0, hx164_1, hx164_2, hx164_3, hx164_4, hx164_5, hx164_6, hx164_7, hx164_8, hx164_9, hx164_10, hx164_11, hx164_12, hx164_13, hx164_14, hx164_15⟩ := at_T31 HR0_0.out x3_2 p164 q164
              cases e164
              replace hx164_0 := (HB.out.cell (World.block_lt_of_cell? w _ hx164_0)).trans hx164_0
              replace hx164_1 := (HB.out.cell (World.block_lt_of_cell? w _ hx164_1)).trans hx164_1
              replace hx164_2 := (HB.out.cell (World.block_lt_of_cell? w _ hx164_2)).trans hx164_2
              replace hx164_3 := (HB.out.cell (World.block_lt_of_cell? w _ hx164_3)).trans hx164_3
              replace hx164_4 := (HB.out.cell (World.block_lt_of_cell? w _ hx164_4)).trans hx164_4
              replace hx164_5 := (HB.out.cell (World.block_lt_of_cell? w _ hx164_5)).trans hx164_5
              replace hx164_6 := (HB.out.cell (World.block_lt_of_cell? w _ hx164_6)).trans hx164_6
              replace hx164_7 := (HB.out.cell (World.block_lt_of_cell? w _ hx164_7)).trans hx164_7
              replace hx164_8 := (HB.out.cell (World.block_lt_of_cell? w _ hx164_8)).trans hx164_8
              replace hx164_9 := (HB.out.cell (World.block_lt_of_cell? w _ hx164_9)).trans hx164_9
              replace hx164_10 := (HB.out.cell (World.block_lt_of_cell? w _ hx164_10)).trans hx164_10
              replace hx164_11 := (HB.out.cell (World.block_lt_of_cell? w _ hx164_11)).trans hx164_11
              replace hx164_12 := (HB.out.cell (World.block_lt_of_cell? w _ hx164_12)).trans hx164_12
              replace hx164_13 := (HB.out.cell (World.block_lt_of_cell? w _ hx164_13)).trans hx164_13
              replace hx164_14 := (HB.out.cell (World.block_lt_of_cell? w _ hx164_14)).trans hx164_14
              replace hx164_15 := (HB.out.cell (World.block_lt_of_cell? w _ hx164_15)).trans hx164_15
              replace p164 := eq_true p164
              replace q164 := eq_true q164
              go_wp2_with (first | ((with_reducible refine gate_dst (N := 5) rfl ?_); (try (refine gate_guard (by rfl) ?_; dsimp only)); refine box_event ?hg (N := 5) ?hd (cs := #[.int .i64 0, .int .i64 0, .int .i64 0, .int .i64 0]) (t := 30) ?hr ?_; (case hd => rfl); (case hg => rfl); (case hr => first | (go_simp; done) | (go_simp; rfl)); intro gb168 hg w129 hbox hb; have n0_ := Aside0.mk (blk_below (g := g) (o := .cells #[.slice (some ad164) t0.length c0_0, .slice P1 t1.length c0_1, .slice P2 t2.length c0_2, .int .i64 m, .int .i64 a0_4] 26 (0, 0)) (by (with_reducible repeat (first | refine blk_drewN ?_ _ | refine blk_drew ?_ | refine blk_alloc ?_ _)); exact K.out) hb); have n1_ := Aside0.mk (below_step (by repeat (first | (with_reducible first | exact HB.out | apply below_alloc | apply pw_below_drewN | apply below_drew1 | refine below_set ?_ E.out) | exact HB.out)) hb); have n2_ := Aside0.mk (hbox); have n3_ := Aside0.mk ((by rw [hg]; exact (below_size (by repeat (first | (with_reducible first | exact HB.out | apply below_alloc | apply pw_below_drewN | apply below_drew1 | refine below_set ?_ E.out) | exact HB.out))) : w.heap.size ≤ gb168)); have n4_ := Aside0.mk ((by rw [hg]; exact (below_size (by repeat (first | (with_reducible first | exact HB.out | apply below_alloc | apply pw_below_drewN | apply below_drew1 | refine below_set ?_ E.out) | exact HB.out))) : w.heap.size ≤ gb168)); have n5_ := Aside0.mk ((by rw [hg]; exact Nat.ne_of_lt (blk_lt (g := g) (o := .cells #[.slice (some ad164) t0.length c0_0, .slice P1 t1.length c0_1, .slice P2 t2.length c0_2, .int .i64 m, .int .i64 a0_4] 26 (0, 0)) (by (with_reducible repeat (first | refine blk_drewN ?_ _ | refine blk_drew ?_ | refine blk_alloc ?_ _)); exact K.out)) : g ≠ gb168)); have n6_ := Aside0.mk ((by rw [hg]; exact Nat.ne_of_gt (blk_lt (g := g) (o := .cells #[.slice (some ad164) t0.length c0_0, .slice P1 t1.length c0_1, .slice P2 t2.length c0_2, .int .i64 m, .int .i64 a0_4] 26 (0, 0)) (by (with_reducible repeat (first | refine blk_drewN ?_ _ | refine blk_drew ?_ | refine blk_alloc ?_ _)); exact K.out)) : gb168 ≠ g)); clear K; clear HB; have K := n0_; have HB := n1_; have BK168 := n2_; have GW168 := n3_; have GE168 := n4_; have NB163_168 := n5_; have NB168_163 := n6_; clear n0_ n1_ n2_ n3_ n4_ n5_ n6_; clear hb hbox hg; have hnb130 := NB168_163.out; have hnc130 := NB163_168.out; have hcz131_0 : w129.cell? ⟨gb168, 0, none⟩ = some (.int .i64 0) := (blk_cell BK168.out 0).trans rfl; have hcz131_1 : w129.cell? ⟨gb168, 1, none⟩ = some (.int .i64 0) := (blk_cell BK168.out 1).trans rfl; have hcz131_2 : w129.cell? ⟨gb168, 2, none⟩ = some (.int .i64 0) := (blk_cell BK168.out 2).trans rfl; have hcz131_3 : w129.cell? ⟨gb168, 3, none⟩ = some (.int .i64 0) := (blk_cell BK168.out 3).trans rfl; have hfz131_0 := blk_frozen BK168.out 0; have hfz131_1 := blk_frozen BK168.out 1; have hfz131_2 := blk_frozen BK168.out 2; have hfz131_3 := blk_frozen BK168.out 3))
              go_ret
              exact ⟨by first | rfl | (simp [errW_none, errW_some] <;> rfl) | (simp [*, errW_none, errW_some] <;> rfl), by repeat (first | (with_reducible first | exact HB.out | apply below_alloc | apply pw_below_drewN | apply below_drew1 | refine below_set ?_ E.out | refine below_set ?_ GE168.out) | exact HB.out)⟩
             rw [if_neg c127] at H
             have c127b0 : decide (((rd_T31 t0 x3_2).f3.f0) < 1) = false := decide_eq_false c127
             clear c127
             by_cases c132 : ((rd_T31 t0 x3_2).f3.f0) > 100000
             ·rw [if_pos c132] at H
              have c132b0 : decide (100000 < ((rd_T31 t0 x3_2).f3.f0)) = true := decide_eq_true c132
              clear c132
              obtain rfl := Option.some.inj H
              have hcz133_0 : wr.cell? ⟨g, 0, none⟩ = some (.slice P0 t0.length c0_0) := (blk_cell K.out 0).trans rfl
              have hcz133_1 : wr.cell? ⟨g, 1, none⟩ = some (.slice P1 t1.length c0_1) := (blk_cell K.out 1).trans rfl
              have hcz133_2 : wr.cell? ⟨g, 2, none⟩ = some (.slice P2 t2.length c0_2) := (blk_cell K.out 2).trans rfl
              have hcz133_3 : wr.cell? ⟨g, 3, none⟩ = some (.int .i64 m) := (blk_cell K.out 3).trans rfl
              have hcz133_4 : wr.cell? ⟨g, 4, none⟩ = some (.int .i64 a0_4) := (blk_cell K.out 4).trans rfl
              have hfz133_0 := blk_frozen K.out 0
              have hfz133_1 := blk_frozen K.out 1
              have hfz133_2 := blk_frozen K.out 2
              have hfz133_3 := blk_frozen K.out 3
              have hfz133_4 := blk_frozen K.out 4
              have p164 : 0 ≤ (x3_2 : Int) := of_decide_eq_true (by first | (with_reducible assumption) | assumption)
              have q164 : x3_2 < (t0.length : Int) := of_decide_eq_true (by first | (with_reducible assumption) | assumption)
              obtain ⟨ad164, e164, hx164_0, hx164_1, hx164_2, hx164_3, hx164_4, hx164_5, hx164_6, hx164_7, hx164_8, hx164_9, hx164_10, hx164_11, hx164_12, hx164_13, hx164_14, hx164_15⟩ := at_T31 HR0_0.out x3_2 p164 q164
              cases e164
              replace hx164_0 := (HB.out.cell (World.block_lt_of_cell? w _ hx164_0)).trans hx164_0
              replace hx164_1 := (HB.out.cell (World.block_lt_of_cell? w _ hx164_1)).trans hx164_1
              replace hx164_2 := (HB.out.cell (World.block_lt_of_cell? w _ hx164_2)).trans hx164_2
              replace hx164_3 := (HB.out.cell (World.block_lt_of_cell? w _ hx164_3)).trans hx164_3
              replace hx164_4 := (HB.out.cell (World.block_lt_of_cell? w _ hx164_4)).trans hx164_4
              replace hx164_5 := (HB.out.cell (World.block_lt_of_cell? w _ hx164_5)).trans hx164_5
              replace hx164_6 := (HB.out.cell (World.block_lt_of_cell? w _ hx164_6)).trans hx164_6
              replace hx164_7 := (HB.out.cell (World.block_lt_of_cell? w _ hx164_7)).trans hx164_7
              replace hx164_8 := (HB.out.cell (World.block_lt_of_cell? w _ hx164_8)).trans hx164_8
              replace hx164_9 := (HB.out.cell (World.block_lt_of_cell? w _ hx164_9)).trans hx164_9
              replace hx164_10 := (HB.out.cell (World.block_lt_of_cell? w _ hx164_10)).trans hx164_10
              replace hx164_11 := (HB.out.cell (World.block_lt_of_cell? w _ hx164_11)).trans hx164_11
              replace hx164_12 := (HB.out.cell (World.block_lt_of_cell? w _ hx164_12)).trans hx164_12
              replace hx164_13 := (HB.out.cell (World.block_lt_of_cell? w _ hx164_13)).trans hx164_13
              replace hx164_14 := (HB.out.cell (World.block_lt_of_cell? w _ hx164_14)).trans hx164_14
              replace hx164_15 := (HB.out.cell (World.block_lt_of_cell? w _ hx164_15)).trans hx164_15
              replace p164 := eq_true p164
              replace q164 := eq_true q164
              go_wp2_with (first | ((with_reducible refine gate_dst (N := 5) rfl ?_); (try (refine gate_guard (by rfl) ?_; dsimp only)); refine box_event ?hg (N := 5) ?hd (cs := #[.int .i64 0, .int .i64 0, .int .i64 0, .int .i64 0]) (t := 30) ?hr ?_; (case hd => rfl); (case hg => rfl); (case hr => first | (go_simp; done) | (go_simp; rfl)); intro gb168 hg w134 hbox hb; have n0_ := Aside0.mk (blk_below (g := g) (o := .cells #[.slice (some ad164) t0.length c0_0, .slice P1 t1.length c0_1, .slice P2 t2.length c0_2, .int .i64 m, .int .i64 a0_4] 26 (0, 0)) (by (with_reducible repeat (first | refine blk_drewN ?_ _ | refine blk_drew ?_ | refine blk_alloc ?_ _)); exact K.out) hb); have n1_ := Aside0.mk (below_step (by repeat (first | (with_reducible first | exact HB.out | apply below_alloc | apply pw_below_drewN | apply below_drew1 | refine below_set ?_ E.out) | exact HB.out)) hb); have n2_ := Aside0.mk (hbox); have n3_ := Aside0.mk ((by rw [hg]; exact (below_size (by repeat (first | (with_reducible first | exact HB.out | apply below_alloc | apply pw_below_drewN | apply below_drew1 | refine below_set ?_ E.out) | exact HB.out))) : w.heap.size ≤ gb168)); have n4_ := Aside0.mk ((by rw [hg]; exact (below_size (by repeat (first | (with_reducible first | exact HB.out | apply below_alloc | apply pw_below_drewN | apply below_drew1 | refine below_set ?_ E.out) | exact HB.out))) : w.heap.size ≤ gb168)); have n5_ := Aside0.mk ((by rw [hg]; exact Nat.ne_of_lt (blk_lt (g := g) (o := .cells #[.slice (some ad164) t0.length c0_0, .slice P1 t1.length c0_1, .slice P2 t2.length c0_2, .int .i64 m, .int .i64 a0_4] 26 (0, 0)) (by (with_reducible repeat (first | refine blk_drewN ?_ _ | refine blk_drew ?_ | refine blk_alloc ?_ _)); exact K.out)) : g ≠ gb168)); have n6_ := Aside0.mk ((by rw [hg]; exact Nat.ne_of_gt (blk_lt (g := g) (o := .cells #[.slice (some ad164) t0.length c0_0, .slice P1 t1.length c0_1, .slice P2 t2.length c0_2, .int .i64 m, .int .i64 a0_4] 26 (0, 0)) (by (with_reducible repeat (first | refine blk_drewN ?_ _ | refine blk_drew ?_ | refine blk_alloc ?_ _)); exact K.out)) : gb168 ≠ g)); clear K; clear HB; have K := n0_; have HB := n1_; have BK168 := n2_; have GW168 := n3_; have GE168 := n4_; have NB163_168 := n5_; have NB168_163 := n6_; clear n0_ n1_ n2_ n3_ n4_ n5_ n6_; clear hb hbox hg; have hnb135 := NB168_163.out; have hnc135 := NB163_168.out; have hcz136_0 : w134.cell? ⟨gb168, 0, none⟩ = some (.int .i64 0) := (blk_cell BK168.out 0).trans rfl; have hcz136_1 : w134.cell? ⟨gb168, 1, none⟩ = some (.int .i64 0) := (blk_cell BK168.out 1).trans rfl; have hcz136_2 : w134.cell? ⟨gb168, 2, none⟩ = some (.int .i64 0) := (blk_cell BK168.out 2).trans rfl; have hcz136_3 : w134.cell? ⟨gb168, 3, none⟩ = some (.int .i64 0) := (blk_cell BK168.out 3).trans rfl; have hfz136_0 := blk_frozen BK168.out 0; have hfz136_1 := blk_frozen BK168.out 1; have hfz136_2 := blk_frozen BK168.out 2; have hfz136_3 := blk_frozen BK168.out 3))
              go_ret
              exact ⟨by first | rfl | (simp [errW_none, errW_some] <;> rfl) | (simp [*, errW_none, errW_some] <;> rfl), by repeat (first | (with_reducible first | exact HB.out | apply below_alloc | apply pw_below_drewN | apply below_drew1 | refine below_set ?_ E.out | refine below_set ?_ GE168.out) | exact HB.out)⟩
             rw [if_neg c132] at H
             have c132b0 : decide (100000 < ((rd_T31 t0 x3_2).f3.f0)) = false := decide_eq_false c132
             clear c132
             by_cases c137 : ((rd_T31 t0 x3_2).f3.f1) < 0
             ·rw [if_pos c137] at H
              have c137b0 : decide (((rd_T31 t0 x3_2).f3.f1) < 0) = true := decide_eq_true c137
              clear c137
              obtain rfl := Option.some.inj H
              have hcz138_0 : wr.cell? ⟨g, 0, none⟩ = some (.slice P0 t0.length c0_0) := (blk_cell K.out 0).trans rfl
              have hcz138_1 : wr.cell? ⟨g, 1, none⟩ = some (.slice P1 t1.length c0_1) := (blk_cell K.out 1).trans rfl
              have hcz138_2 : wr.cell? ⟨g, 2, none⟩ = some (.slice P2 t2.length c0_2) := (blk_cell K.out 2).trans rfl
              have hcz138_3 : wr.cell? ⟨g, 3, none⟩ = some (.int .i64 m) := (blk_cell K.out 3).trans rfl
              have hcz138_4 : wr.cell? ⟨g, 4, none⟩ = some (.int .i64 a0_4) := (blk_cell K.out 4).trans rfl
              have hfz138_0 := blk_frozen K.out 0
              have hfz138_1 := blk_frozen K.out 1
              have hfz138_2 := blk_frozen K.out 2
              have hfz138_3 := blk_frozen K.out 3
              have hfz138_4 := blk_frozen K.out 4
              have p164 : 0 ≤ (x3_2 : Int) := of_decide_eq_true (by first | (with_reducible assumption) | assumption)
              have q164 : x3_2 < (t0.length : Int) := of_decide_eq_true (by first | (with_reducible assumption) | assumption)
              obtain ⟨ad164, e164, hx164_0, hx164_1, hx164_2, hx164_3, hx164_4, hx164_5, hx164_6, hx164_7, hx164_8, hx164_9, hx164_10, hx164_11, hx164_12, hx164_13, hx164_14, hx164_15⟩ := at_T31 HR0_0.out x3_2 p164 q164
              cases e164
              replace hx164_0 := (HB.out.cell (World.block_lt_of_cell? w _ hx164_0)).trans hx164_0
              replace hx164_1 := (HB.out.cell (World.block_lt_of_cell? w _ hx164_1)).trans hx164_1
              replace hx164_2 := (HB.out.cell (World.block_lt_of_cell? w _ hx164_2)).trans hx164_2
              replace hx164_3 := (HB.out.cell (World.block_lt_of_cell? w _ hx164_3)).trans hx164_3
              replace hx164_4 := (HB.out.cell (World.block_lt_of_cell? w _ hx164_4)).trans hx164_4
              replace hx164_5 := (HB.out.cell (World.block_lt_of_cell? w _ hx164_5)).trans hx164_5
              replace hx164_6 := (HB.out.cell (World.block_lt_of_cell? w _ hx164_6)).trans hx164_6
              replace hx164_7 := (HB.out.cell (World.block_lt_of_cell? w _ hx164_7)).trans hx164_7
              replace hx164_8 := (HB.out.cell (World.block_lt_of_cell? w _ hx164_8)).trans hx164_8
              replace hx164_9 := (HB.out.cell (World.block_lt_of_cell? w _ hx164_9)).trans hx164_9
              replace hx164_10 := (HB.out.cell (World.block_lt_of_cell? w _ hx164_10)).trans hx164_10
              replace hx164_11 := (HB.out.cell (World.block_lt_of_cell? w _ hx164_11)).trans hx164_11
              replace hx164_12 := (HB.out.cell (World.block_lt_of_cell? w _ hx164_12)).trans hx164_12
              replace hx164_13 := (HB.out.cell (World.block_lt_of_cell? w _ hx164_13)).trans hx164_13
              replace hx164_14 := (HB.out.cell (World.block_lt_of_cell? w _ hx164_14)).trans hx164_14
              replace hx164_15 := (HB.out.cell (World.block_lt_of_cell? w _ hx164_15)).trans hx164_15
              replace p164 := eq_true p164
              replace q164 := eq_true q164
              go_wp2_with (first | ((with_reducible refine gate_dst (N := 5) rfl ?_); (try (refine gate_guard (by rfl) ?_; dsimp only)); refine box_event ?hg (N := 5) ?hd (cs := #[.int .i64 0, .int .i64 0, .int .i64 0, .int .i64 0]) (t := 30) ?hr ?_; (case hd => rfl); (case hg => rfl); (case hr => first | (go_simp; done) | (go_simp; rfl)); intro gb168 hg w139 hbox hb; have n0_ := Aside0.mk (blk_below (g := g) (o := .cells #[.slice (some ad164) t0.length c0_0, .slice P1 t1.length c0_1, .slice P2 t2.length c0_2, .int .i64 m, .int .i64 a0_4] 26 (0, 0)) (by (with_reducible repeat (first | refine blk_drewN ?_ _ | refine blk_drew ?_ | refine blk_alloc ?_ _)); exact K.out) hb); have n1_ := Aside0.mk (below_step (by repeat (first | (with_reducible first | exact HB.out | apply below_alloc | apply pw_below_drewN | apply below_drew1 | refine below_set ?_ E.out) | exact HB.out)) hb); have n2_ := Aside0.mk (hbox); have n3_ := Aside0.mk ((by rw [hg]; exact (below_size (by repeat (first | (with_reducible first | exact HB.out | apply below_alloc | apply pw_below_drewN | apply below_drew1 | refine below_set ?_ E.out) | exact HB.out))) : w.heap.size ≤ gb168)); have n4_ := Aside0.mk ((by rw [hg]; exact (below_size (by repeat (first | (with_reducible first | exact HB.out | apply below_alloc | apply pw_below_drewN | apply below_drew1 | refine below_set ?_ E.out) | exact HB.out))) : w.heap.size ≤ gb168)); have n5_ := Aside0.mk ((by rw [hg]; exact Nat.ne_of_lt (blk_lt (g := g) (o := .cells #[.slice (some ad164) t0.length c0_0, .slice P1 t1.length c0_1, .slice P2 t2.length c0_2, .int .i64 m, .int .i64 a0_4] 26 (0, 0)) (by (with_reducible repeat (first | refine blk_drewN ?_ _ | refine blk_drew ?_ | refine blk_alloc ?_ _)); exact K.out)) : g ≠ gb168)); have n6_ := Aside0.mk ((by rw [hg]; exact Nat.ne_of_gt (blk_lt (g := g) (o := .cells #[.slice (some ad164) t0.length c0_0, .slice P1 t1.length c0_1, .slice P2 t2.length c0_2, .int .i64 m, .int .i64 a0_4] 26 (0, 0)) (by (with_reducible repeat (first | refine blk_drewN ?_ _ | refine blk_drew ?_ | refine blk_alloc ?_ _)); exact K.out)) : gb168 ≠ g)); clear K; clear HB; have K := n0_; have HB := n1_; have BK168 := n2_; have GW168 := n3_; have GE168 := n4_; have NB163_168 := n5_; have NB168_163 := n6_; clear n0_ n1_ n2_ n3_ n4_ n5_ n6_; clear hb hbox hg; have hnb140 := NB168_163.out; have hnc140 := NB163_168.out; have hcz141_0 : w139.cell? ⟨gb168, 0, none⟩ = some (.int .i64 0) := (blk_cell BK168.out 0).trans rfl; have hcz141_1 : w139.cell? ⟨gb168, 1, none⟩ = some (.int .i64 0) := (blk_cell BK168.out 1).trans rfl; have hcz141_2 : w139.cell? ⟨gb168, 2, none⟩ = some (.int .i64 0) := (blk_cell BK168.out 2).trans rfl; have hcz141_3 : w139.cell? ⟨gb168, 3, none⟩ = some (.int .i64 0) := (blk_cell BK168.out 3).trans rfl; have hfz141_0 := blk_frozen BK168.out 0; have hfz141_1 := blk_frozen BK168.out 1; have hfz141_2 := blk_frozen BK168.out 2; have hfz141_3 := blk_frozen BK168.out 3))
              go_ret
              exact ⟨by first | rfl | (simp [errW_none, errW_some] <;> rfl) | (simp [*, errW_none, errW_some] <;> rfl), by repeat (first | (with_reducible first | exact HB.out | apply below_alloc | apply pw_below_drewN | apply below_drew1 | refine below_set ?_ E.out | refine below_set ?_ GE168.out) | exact HB.out)⟩
             rw [if_neg c137] at H
             have c137b0 : decide (((rd_T31 t0 x3_2).f3.f1) < 0) = false := decide_eq_false c137
             clear c137
             by_cases c142 : ((rd_T31 t0 x3_2).f3.f1) > 10000
             ·rw [if_pos c142] at H
              have c142b0 : decide (10000 < ((rd_T31 t0 x3_2).f3.f1)) = true := decide_eq_true c142
              clear c142
              obtain rfl := Option.some.inj H
              have hcz143_0 : wr.cell? ⟨g, 0, none⟩ = some (.slice P0 t0.length c0_0) := (blk_cell K.out 0).trans rfl
              have hcz143_1 : wr.cell? ⟨g, 1, none⟩ = some (.slice P1 t1.length c0_1) := (blk_cell K.out 1).trans rfl
              have hcz143_2 : wr.cell? ⟨g, 2, none⟩ = some (.slice P2 t2.length c0_2) := (blk_cell K.out 2).trans rfl
              have hcz143_3 : wr.cell? ⟨g, 3, none⟩ = some (.int .i64 m) := (blk_cell K.out 3).trans rfl
              have hcz143_4 : wr.cell? ⟨g, 4, none⟩ = some (.int .i64 a0_4) := (blk_cell K.out 4).trans rfl
              have hfz143_0 := blk_frozen K.out 0
              have hfz143_1 := blk_frozen K.out 1
              have hfz143_2 := blk_frozen K.out 2
              have hfz143_3 := blk_frozen K.out 3
              have hfz143_4 := blk_frozen K.out 4
              have p164 : 0 ≤ (x3_2 : Int) := of_decide_eq_true (by first | (with_reducible assumption) | assumption)
              have q164 : x3_2 < (t0.length : Int) := of_decide_eq_true (by first | (with_reducible assumption) | assumption)
              obtain ⟨ad164, e164, hx164_0, hx164_1, hx164_2, hx164_3, hx164_4, hx164_5, hx164_6, hx164_7, hx164_8, hx164_9, hx164_10, hx164_11, hx164_12, hx164_13, hx164_14, hx164_15⟩ := at_T31 HR0_0.out x3_2 p164 q164
              cases e164
              replace hx164_0 := (HB.out.cell (World.block_lt_of_cell? w _ hx164_0)).trans hx164_0
              replace hx164_1 := (HB.out.cell (World.block_lt_of_cell? w _ hx164_1)).trans hx164_1
              replace hx164_2 := (HB.out.cell (World.block_lt_of_cell? w _ hx164_2)).trans hx164_2
              replace hx164_3 := (HB.out.cell (World.block_lt_of_cell? w _ hx164_3)).trans hx164_3
              replace hx164_4 := (HB.out.cell (World.block_lt_of_cell? w _ hx164_4)).trans hx164_4
              replace hx164_5 := (HB.out.cell (World.block_lt_of_cell? w _ hx164_5)).trans hx164_5
              replace hx164_6 := (HB.out.cell (World.block_lt_of_cell? w _ hx164_6)).trans hx164_6
              replace hx164_7 := (HB.out.cell (World.block_lt_of_cell? w _ hx164_7)).trans hx164_7
              replace hx164_8 := (HB.out.cell (World.block_lt_of_cell? w _ hx164_8)).trans hx164_8
              replace hx164_9 := (HB.out.cell (World.block_lt_of_cell? w _ hx164_9)).trans hx164_9
              replace hx164_10 := (HB.out.cell (World.block_lt_of_cell? w _ hx164_10)).trans hx164_10
              replace hx164_11 := (HB.out.cell (World.block_lt_of_cell? w _ hx164_11)).trans hx164_11
              replace hx164_12 := (HB.out.cell (World.block_lt_of_cell? w _ hx164_12)).trans hx164_12
              replace hx164_13 := (HB.out.cell (World.block_lt_of_cell? w _ hx164_13)).trans hx164_13
              replace hx164_14 := (HB.out.cell (World.block_lt_of_cell? w _ hx164_14)).trans hx164_14
              replace hx164_15 := (HB.out.cell (World.block_lt_of_cell? w _ hx164_15)).trans hx164_15
              replace p164 := eq_true p164
              replace q164 := eq_true q164
              go_wp2_with (first | ((with_reducible refine gate_dst (N := 5) rfl ?_); (try (refine gate_guard (by rfl) ?_; dsimp only)); refine box_event ?hg (N := 5) ?hd (cs := #[.int .i64 0, .int .i64 0, .int .i64 0, .int .i64 0]) (t := 30) ?hr ?_; (case hd => rfl); (case hg => rfl); (case hr => first | (go_simp; done) | (go_simp; rfl)); intro gb168 hg w144 hbox hb; have n0_ := Aside0.mk (blk_below (g := g) (o := .cells #[.slice (some ad164) t0.length c0_0, .slice P1 t1.length c0_1, .slice P2 t2.length c0_2, .int .i64 m, .int .i64 a0_4] 26 (0, 0)) (by (with_reducible repeat (first | refine blk_drewN ?_ _ | refine blk_drew ?_ | refine blk_alloc ?_ _)); exact K.out) hb); have n1_ := Aside0.mk (below_step (by repeat (first | (with_reducible first | exact HB.out | apply below_alloc | apply pw_below_drewN | apply below_drew1 | refine below_set ?_ E.out) | exact HB.out)) hb); have n2_ := Aside0.mk (hbox); have n3_ := Aside0.mk ((by rw [hg]; exact (below_size (by repeat (first | (with_reducible first | exact HB.out | apply below_alloc | apply pw_below_drewN | apply below_drew1 | refine below_set ?_ E.out) | exact HB.out))) : w.heap.size ≤ gb168)); have n4_ := Aside0.mk ((by rw [hg]; exact (below_size (by repeat (first | (with_reducible first | exact HB.out | apply below_alloc | apply pw_below_drewN | apply below_drew1 | refine below_set ?_ E.out) | exact HB.out))) : w.heap.size ≤ gb168)); have n5_ := Aside0.mk ((by rw [hg]; exact Nat.ne_of_lt (blk_lt (g := g) (o := .cells #[.slice (some ad164) t0.length c0_0, .slice P1 t1.length c0_1, .slice P2 t2.length c0_2, .int .i64 m, .int .i64 a0_4] 26 (0, 0)) (by (with_reducible repeat (first | refine blk_drewN ?_ _ | refine blk_drew ?_ | refine blk_alloc ?_ _)); exact K.out)) : g ≠ gb168)); have n6_ := Aside0.mk ((by rw [hg]; exact Nat.ne_of_gt (blk_lt (g := g) (o := .cells #[.slice (some ad164) t0.length c0_0, .slice P1 t1.length c0_1, .slice P2 t2.length c0_2, .int .i64 m, .int .i64 a0_4] 26 (0, 0)) (by (with_reducible repeat (first | refine blk_drewN ?_ _ | refine blk_drew ?_ | refine blk_alloc ?_ _)); exact K.out)) : gb168 ≠ g)); clear K; clear HB; have K := n0_; have HB := n1_; have BK168 := n2_; have GW168 := n3_; have GE168 := n4_; have NB163_168 := n5_; have NB168_163 := n6_; clear n0_ n1_ n2_ n3_ n4_ n5_ n6_; clear hb hbox hg; have hnb145 := NB168_163.out; have hnc145 := NB163_168.out; have hcz146_0 : w144.cell? ⟨gb168, 0, none⟩ = some (.int .i64 0) := (blk_cell BK168.out 0).trans rfl; have hcz146_1 : w144.cell? ⟨gb168, 1, none⟩ = some (.int .i64 0) := (blk_cell BK168.out 1).trans rfl; have hcz146_2 : w144.cell? ⟨gb168, 2, none⟩ = some (.int .i64 0) := (blk_cell BK168.out 2).trans rfl; have hcz146_3 : w144.cell? ⟨gb168, 3, none⟩ = some (.int .i64 0) := (blk_cell BK168.out 3).trans rfl; have hfz146_0 := blk_frozen BK168.out 0; have hfz146_1 := blk_frozen BK168.out 1; have hfz146_2 := blk_frozen BK168.out 2; have hfz146_3 := blk_frozen BK168.out 3))
              go_ret
              exact ⟨by first | rfl | (simp [errW_none, errW_some] <;> rfl) | (simp [*, errW_none, errW_some] <;> rfl), by repeat (first | (with_reducible first | exact HB.out | apply below_alloc | apply pw_below_drewN | apply below_drew1 | refine below_set ?_ E.out | refine below_set ?_ GE168.out) | exact HB.out)⟩
             rw [if_neg c142] at H
             have c142b0 : decide (10000 < ((rd_T31 t0 x3_2).f3.f1)) = false := decide_eq_false c142
             clear c142
             by_cases c147 : ((rd_T31 t0 x3_2).f3.f2) = 0
             ·rw [if_pos c147] at H
              have c147b0 : (((rd_T31 t0 x3_2).f3.f2) == 0) = true := beq_iff_eq.mpr c147
              have c147b1 : (((rd_T31 t0 x3_2).f3.f2) != 0) = false := bne_eq_false_iff_eq.mpr c147
              clear c147
              by_cases c148 : ((rd_T31 t0 x3_2).f3.f3) = 0
              ·rw [if_pos c148] at H
               have c148b0 : (((rd_T31 t0 x3_2).f3.f3) == 0) = true := beq_iff_eq.mpr c148
               have c148b1 : (((rd_T31 t0 x3_2).f3.f3) != 0) = false := bne_eq_false_iff_eq.mpr c148
               clear c148
               have H' := Aside0.mk H
               clear H
               have hcz149_0 : wr.cell? ⟨g, 0, none⟩ = some (.slice P0 t0.length c0_0) := (blk_cell K.out 0).trans rfl
               have hcz149_1 : wr.cell? ⟨g, 1, none⟩ = some (.slice P1 t1.length c0_1) := (blk_cell K.out 1).trans rfl
               have hcz149_2 : wr.cell? ⟨g, 2, none⟩ = some (.slice P2 t2.length c0_2) := (blk_cell K.out 2).trans rfl
               have hcz149_3 : wr.cell? ⟨g, 3, none⟩ = some (.int .i64 m) := (blk_cell K.out 3).trans rfl
               have hcz149_4 : wr.cell? ⟨g, 4, none⟩ = some (.int .i64 a0_4) := (blk_cell K.out 4).trans rfl
               have hfz149_0 := blk_frozen K.out 0
               have hfz149_1 := blk_frozen K.out 1
               have hfz149_2 := blk_frozen K.out 2
               have hfz149_3 := blk_frozen K.out 3
               have hfz149_4 := blk_frozen K.out 4
               have p164 : 0 ≤ (x3_2 : Int) := of_decide_eq_true (by first | (with_reducible assumption) | assumption)
               have q164 : x3_2 < (t0.length : Int) := of_decide_eq_true (by first | (with_reducible assumption) | assumption)
               obtain ⟨ad164, e164, hx164_0, hx164_1, hx164_2, hx164_3, hx164_4, hx164_5, hx164_6, hx164_7, hx164_8, hx164_9, hx164_10, hx164_11, hx164_12, hx164_13, hx164_14, hx164_15⟩ := at_T31 HR0_0.out x3_2 p164 q164
               cases e164
               replace hx164_0 := (HB.out.cell (World.block_lt_of_cell? w _ hx164_0)).trans hx164_0
               replace hx164_1 := (HB.out.cell (World.block_lt_of_cell? w _ hx164_1)).trans hx164_1
               replace hx164_2 := (HB.out.cell (World.block_lt_of_cell? w _ hx164_2)).trans hx164_2
               replace hx164_3 := (HB.out.cell (World.block_lt_of_cell? w _ hx164_3)).trans hx164_3
               replace hx164_4 := (HB.out.cell (World.block_lt_of_cell? w _ hx164_4)).trans hx164_4
               replace hx164_5 := (HB.out.cell (World.block_lt_of_cell? w _ hx164_5)).trans hx164_5
               replace hx164_6 := (HB.out.cell (World.block_lt_of_cell? w _ hx164_6)).trans hx164_6
               replace hx164_7 := (HB.out.cell (World.block_lt_of_cell? w _ hx164_7)).trans hx164_7
               replace hx164_8 := (HB.out.cell (World.block_lt_of_cell? w _ hx164_8)).trans hx164_8
               replace hx164_9 := (HB.out.cell (World.block_lt_of_cell? w _ hx164_9)).trans hx164_9
               replace hx164_10 := (HB.out.cell (World.block_lt_of_cell? w _ hx164_10)).trans hx164_10
               replace hx164_11 := (HB.out.cell (World.block_lt_of_cell? w _ hx164_11)).trans hx164_11
               replace hx164_12 := (HB.out.cell (World.block_lt_of_cell? w _ hx164_12)).trans hx164_12
               replace hx164_13 := (HB.out.cell (World.block_lt_of_cell? w _ hx164_13)).trans hx164_13
               replace hx164_14 := (HB.out.cell (World.block_lt_of_cell? w _ hx164_14)).trans hx164_14
               replace hx164_15 := (HB.out.cell (World.block_lt_of_cell? w _ hx164_15)).trans hx164_15
               replace p164 := eq_true p164
               replace q164 := eq_true q164
               go_wp2_with (first | ((with_reducible refine gate_dst (N := 5) rfl ?_); (try (refine gate_guard (by rfl) ?_; dsimp only)); refine box_event ?hg (N := 5) ?hd (cs := #[.int .i64 0, .int .i64 0, .int .i64 0, .int .i64 0]) (t := 30) ?hr ?_; (case hd => rfl); (case hg => rfl); (case hr => first | (go_simp; done) | (go_simp; rfl)); intro gb168 hg w150 hbox hb; have n0_ := Aside0.mk (blk_below (g := g) (o := .cells #[.slice (some ad164) t0.length c0_0, .slice P1 t1.length c0_1, .slice P2 t2.length c0_2, .int .i64 m, .int .i64 a0_4] 26 (0, 0)) (by (with_reducible repeat (first | refine blk_drewN ?_ _ | refine blk_drew ?_ | refine blk_alloc ?_ _)); exact K.out) hb); have n1_ := Aside0.mk (below_step (by repeat (first | (with_reducible first | exact HB.out | apply below_alloc | apply pw_below_drewN | apply below_drew1 | refine below_set ?_ E.out) | exact HB.out)) hb); have n2_ := Aside0.mk (hbox); have n3_ := Aside0.mk ((by rw [hg]; exact (below_size (by repeat (first | (with_reducible first | exact HB.out | apply below_alloc | apply pw_below_drewN | apply below_drew1 | refine below_set ?_ E.out) | exact HB.out))) : w.heap.size ≤ gb168)); have n4_ := Aside0.mk ((by rw [hg]; exact (below_size (by repeat (first | (with_reducible first | exact HB.out | apply below_alloc | apply pw_below_drewN | apply below_drew1 | refine below_set ?_ E.out) | exact HB.out))) : w.heap.size ≤ gb168)); have n5_ := Aside0.mk ((by rw [hg]; exact Nat.ne_of_lt (blk_lt (g := g) (o := .cells #[.slice (some ad164) t0.length c0_0, .slice P1 t1.length c0_1, .slice P2 t2.length c0_2, .int .i64 m, .int .i64 a0_4] 26 (0, 0)) (by (with_reducible repeat (first | refine blk_drewN ?_ _ | refine blk_drew ?_ | refine blk_alloc ?_ _)); exact K.out)) : g ≠ gb168)); have n6_ := Aside0.mk ((by rw [hg]; exact Nat.ne_of_gt (blk_lt (g := g) (o := .cells #[.slice (some ad164) t0.length c0_0, .slice P1 t1.length c0_1, .slice P2 t2.length c0_2, .int .i64 m, .int .i64 a0_4] 26 (0, 0)) (by (with_reducible repeat (first | refine blk_drewN ?_ _ | refine blk_drew ?_ | refine blk_alloc ?_ _)); exact K.out)) : gb168 ≠ g)); clear K; clear HB; have K := n0_; have HB := n1_; have BK168 := n2_; have GW168 := n3_; have GE168 := n4_; have NB163_168 := n5_; have NB168_163 := n6_; clear n0_ n1_ n2_ n3_ n4_ n5_ n6_; clear hb hbox hg; have hnb151 := NB168_163.out; have hnc151 := NB163_168.out; have hcz152_0 : w150.cell? ⟨gb168, 0, none⟩ = some (.int .i64 0) := (blk_cell BK168.out 0).trans rfl; have hcz152_1 : w150.cell? ⟨gb168, 1, none⟩ = some (.int .i64 0) := (blk_cell BK168.out 1).trans rfl; have hcz152_2 : w150.cell? ⟨gb168, 2, none⟩ = some (.int .i64 0) := (blk_cell BK168.out 2).trans rfl; have hcz152_3 : w150.cell? ⟨gb168, 3, none⟩ = some (.int .i64 0) := (blk_cell BK168.out 3).trans rfl; have hfz152_0 := blk_frozen BK168.out 0; have hfz152_1 := blk_frozen BK168.out 1; have hfz152_2 := blk_frozen BK168.out 2; have hfz152_3 := blk_frozen BK168.out 3))
               go_roundg k3
               case measure => have := HJ1.out; have := HK2.out; have := HK3.out; omega
               case rel => exact ⟨(wrap64 (3 + 1)), (by first | rfl | (simp; done) | (simp [*]; done) | (congr 1; unfold wrap64; omega)), H', ⟨by have := HJ1.out; have := HK2.out; have := HK3.out; omega⟩, ⟨by (with_reducible repeat (first | refine blk_drewN ?_ _ | refine blk_drew ?_ | refine blk_alloc ?_ _)); refine blk_far ?_ NB163_168.out _; (with_reducible repeat (first | refine blk_drewN ?_ _ | refine blk_drew ?_ | refine blk_alloc ?_ _)); refine blk_far ?_ NB163_168.out _; (with_reducible repeat (first | refine blk_drewN ?_ _ | refine blk_drew ?_ | refine blk_alloc ?_ _)); refine blk_far ?_ NB163_168.out _; (with_reducible repeat (first | refine blk_drewN ?_ _ | refine blk_drew ?_ | refine blk_alloc ?_ _)); refine blk_far ?_ NB163_168.out _; (with_reducible repeat (first | refine blk_drewN ?_ _ | refine blk_drew ?_ | refine blk_alloc ?_ _)); exact K.out⟩, ⟨by repeat (first | (with_reducible first | exact HB.out | apply below_alloc | apply pw_below_drewN | apply below_drew1 | refine below_set ?_ E.out | refine below_set ?_ GE168.out) | exact HB.out)⟩⟩
              rw [if_neg c148] at H
              have c148b0 : (((rd_T31 t0 x3_2).f3.f3) == 0) = false := beq_eq_false_iff_ne.mpr c148
              have c148b1 : (((rd_T31 t0 x3_2).f3.f3) != 0) = true := bne_iff_ne.mpr c148
              obtain rfl := Option.some.inj H
              have hcz153_0 : wr.cell? ⟨g, 0, none⟩ = some (.slice P0 t0.length c0_0) := (blk_cell K.out 0).trans rfl
              have hcz153_1 : wr.cell? ⟨g, 1, none⟩ = some (.slice P1 t1.length c0_1) := (blk_cell K.out 1).trans rfl
              have hcz153_2 : wr.cell? ⟨g, 2, none⟩ = some (.slice P2 t2.length c0_2) := (blk_cell K.out 2).trans rfl
              have hcz153_3 : wr.cell? ⟨g, 3, none⟩ = some (.int .i64 m) := (blk_cell K.out 3).trans rfl
              have hcz153_4 : wr.cell? ⟨g, 4, none⟩ = some (.int .i64 a0_4) := (blk_cell K.out 4).trans rfl
              have hfz153_0 := blk_frozen K.out 0
              have hfz153_1 := blk_frozen K.out 1
              have hfz153_2 := blk_frozen K.out 2
              have hfz153_3 := blk_frozen K.out 3
              have hfz153_4 := blk_frozen K.out 4
              have p164 : 0 ≤ (x3_2 : Int) := of_decide_eq_true (by first | (with_reducible assumption) | assumption)
              have q164 : x3_2 < (t0.length : Int) := of_decide_eq_true (by first | (with_reducible assumption) | assumption)
              obtain ⟨ad164, e164, hx164_0, hx164_1, hx164_2, hx164_3, hx164_4, hx164_5, hx164_6, hx164_7, hx164_8, hx164_9, hx164_10, hx164_11, hx164_12, hx164_13, hx164_14, hx164_15⟩ := at_T31 HR0_0.out x3_2 p164 q164
              cases e164
              replace hx164_0 := (HB.out.cell (World.block_lt_of_cell? w _ hx164_0)).trans hx164_0
              replace hx164_1 := (HB.out.cell (World.block_lt_of_cell? w _ hx164_1)).trans hx164_1
              replace hx164_2 := (HB.out.cell (World.block_lt_of_cell? w _ hx164_2)).trans hx164_2
              replace hx164_3 := (HB.out.cell (World.block_lt_of_cell? w _ hx164_3)).trans hx164_3
              replace hx164_4 := (HB.out.cell (World.block_lt_of_cell? w _ hx164_4)).trans hx164_4
              replace hx164_5 := (HB.out.cell (World.block_lt_of_cell? w _ hx164_5)).trans hx164_5
              replace hx164_6 := (HB.out.cell (World.block_lt_of_cell? w _ hx164_6)).trans hx164_6
              replace hx164_7 := (HB.out.cell (World.block_lt_of_cell? w _ hx164_7)).trans hx164_7
              replace hx164_8 := (HB.out.cell (World.block_lt_of_cell? w _ hx164_8)).trans hx164_8
              replace hx164_9 := (HB.out.cell (World.block_lt_of_cell? w _ hx164_9)).trans hx164_9
              replace hx164_10 := (HB.out.cell (World.block_lt_of_cell? w _ hx164_10)).trans hx164_10
              replace hx164_11 := (HB.out.cell (World.block_lt_of_cell? w _ hx164_11)).trans hx164_11
              replace hx164_12 := (HB.out.cell (World.block_lt_of_cell? w _ hx164_12)).trans hx164_12
              replace hx164_13 := (HB.out.cell (World.block_lt_of_cell? w _ hx164_13)).trans hx164_13
              replace hx164_14 := (HB.out.cell (World.block_lt_of_cell? w _ hx164_14)).trans hx164_14
              replace hx164_15 := (HB.out.cell (World.block_lt_of_cell? w _ hx164_15)).trans hx164_15
              replace p164 := eq_true p164
              replace q164 := eq_true q164
              go_wp2_with (first | ((with_reducible refine gate_dst (N := 5) rfl ?_); (try (refine gate_guard (by rfl) ?_; dsimp only)); refine box_event ?hg (N := 5) ?hd (cs := #[.int .i64 0, .int .i64 0, .int .i64 0, .int .i64 0]) (t := 30) ?hr ?_; (case hd => rfl); (case hg => rfl); (case hr => first | (go_simp; done) | (go_simp; rfl)); intro gb168 hg w154 hbox hb; have n0_ := Aside0.mk (blk_below (g := g) (o := .cells #[.slice (some ad164) t0.length c0_0, .slice P1 t1.length c0_1, .slice P2 t2.length c0_2, .int .i64 m, .int .i64 a0_4] 26 (0, 0)) (by (with_reducible repeat (first | refine blk_drewN ?_ _ | refine blk_drew ?_ | refine blk_alloc ?_ _)); exact K.out) hb); have n1_ := Aside0.mk (below_step (by repeat (first | (with_reducible first | exact HB.out | apply below_alloc | apply pw_below_drewN | apply below_drew1 | refine below_set ?_ E.out) | exact HB.out)) hb); have n2_ := Aside0.mk (hbox); have n3_ := Aside0.mk ((by rw [hg]; exact (below_size (by repeat (first | (with_reducible first | exact HB.out | apply below_alloc | apply pw_below_drewN | apply below_drew1 | refine below_set ?_ E.out) | exact HB.out))) : w.heap.size ≤ gb168)); have n4_ := Aside0.mk ((by rw [hg]; exact (below_size (by repeat (first | (with_reducible first | exact HB.out | apply below_alloc | apply pw_below_drewN | apply below_drew1 | refine below_set ?_ E.out) | exact HB.out))) : w.heap.size ≤ gb168)); have n5_ := Aside0.mk ((by rw [hg]; exact Nat.ne_of_lt (blk_lt (g := g) (o := .cells #[.slice (some ad164) t0.length c0_0, .slice P1 t1.length c0_1, .slice P2 t2.length c0_2, .int .i64 m, .int .i64 a0_4] 26 (0, 0)) (by (with_reducible repeat (first | refine blk_drewN ?_ _ | refine blk_drew ?_ | refine blk_alloc ?_ _)); exact K.out)) : g ≠ gb168)); have n6_ := Aside0.mk ((by rw [hg]; exact Nat.ne_of_gt (blk_lt (g := g) (o := .cells #[.slice (some ad164) t0.length c0_0, .slice P1 t1.length c0_1, .slice P2 t2.length c0_2, .int .i64 m, .int .i64 a0_4] 26 (0, 0)) (by (with_reducible repeat (first | refine blk_drewN ?_ _ | refine blk_drew ?_ | refine blk_alloc ?_ _)); exact K.out)) : gb168 ≠ g)); clear K; clear HB; have K := n0_; have HB := n1_; have BK168 := n2_; have GW168 := n3_; have GE168 := n4_; have NB163_168 := n5_; have NB168_163 := n6_; clear n0_ n1_ n2_ n3_ n4_ n5_ n6_; clear hb hbox hg; have hnb155 := NB168_163.out; have hnc155 := NB163_168.out; have hcz156_0 : w154.cell? ⟨gb168, 0, none⟩ = some (.int .i64 0) := (blk_cell BK168.out 0).trans rfl; have hcz156_1 : w154.cell? ⟨gb168, 1, none⟩ = some (.int .i64 0) := (blk_cell BK168.out 1).trans rfl; have hcz156_2 : w154.cell? ⟨gb168, 2, none⟩ = some (.int .i64 0) := (blk_cell BK168.out 2).trans rfl; have hcz156_3 : w154.cell? ⟨gb168, 3, none⟩ = some (.int .i64 0) := (blk_cell BK168.out 3).trans rfl; have hfz156_0 := blk_frozen BK168.out 0; have hfz156_1 := blk_frozen BK168.out 1; have hfz156_2 := blk_frozen BK168.out 2; have hfz156_3 := blk_frozen BK168.out 3))
              go_ret
              exact ⟨by first | rfl | (simp [errW_none, errW_some] <;> rfl) | (simp [*, errW_none, errW_some] <;> rfl), by repeat (first | (with_reducible first | exact HB.out | apply below_alloc | apply pw_below_drewN | apply below_drew1 | refine below_set ?_ E.out | refine below_set ?_ GE168.out) | exact HB.out)⟩
             rw [if_neg c147] at H
             have c147b0 : (((rd_T31 t0 x3_2).f3.f2) == 0) = false := beq_eq_false_iff_ne.mpr c147
             have c147b1 : (((rd_T31 t0 x3_2).f3.f2) != 0) = true := bne_iff_ne.mpr c147
             obtain rfl := Option.some.inj H
             have hcz157_0 : wr.cell? ⟨g, 0, none⟩ = some (.slice P0 t0.length c0_0) := (blk_cell K.out 0).trans rfl
             have hcz157_1 : wr.cell? ⟨g, 1, none⟩ = some (.slice P1 t1.length c0_1) := (blk_cell K.out 1).trans rfl
             have hcz157_2 : wr.cell? ⟨g, 2, none⟩ = some (.slice P2 t2.length c0_2) := (blk_cell K.out 2).trans rfl
             have hcz157_3 : wr.cell? ⟨g, 3, none⟩ = some (.int .i64 m) := (blk_cell K.out 3).trans rfl
             have hcz157_4 : wr.cell? ⟨g, 4, none⟩ = some (.int .i64 a0_4) := (blk_cell K.out 4).trans rfl
             have hfz157_0 := blk_frozen K.out 0
             have hfz157_1 := blk_frozen K.out 1
             have hfz157_2 := blk_frozen K.out 2
             have hfz157_3 := blk_frozen K.out 3
             have hfz157_4 := blk_frozen K.out 4
             have p164 : 0 ≤ (x3_2 : Int) := of_decide_eq_true (by first | (with_reducible assumption) | assumption)
             have q164 : x3_2 < (t0.length : Int) := of_decide_eq_true (by first | (with_reducible assumption) | assumption)
             obtain ⟨ad164, e164, hx164_0, hx164_1, hx164_2, hx164_3, hx164_4, hx164_5, hx164_6, hx164_7, hx164_8, hx164_9, hx164_10, hx164_11, hx164_12, hx164_13, hx164_14, hx164_15⟩ := at_T31 HR0_0.out x3_2 p164 q164
             cases e164
             replace hx164_0 := (HB.out.cell (World.block_lt_of_cell? w _ hx164_0)).trans hx164_0
             replace hx164_1 := (HB.out.cell (World.block_lt_of_cell? w _ hx164_1)).trans hx164_1
             replace hx164_2 := (HB.out.cell (World.block_lt_of_cell? w _ hx164_2)).trans hx164_2
             replace hx164_3 := (HB.out.cell (World.block_lt_of_cell? w _ hx164_3)).trans hx164_3
             replace hx164_4 := (HB.out.cell (World.block_lt_of_cell? w _ hx164_4)).trans hx164_4
             replace hx164_5 := (HB.out.cell (World.block_lt_of_cell? w _ hx164_5)).trans hx164_5
             replace hx164_6 := (HB.out.cell (World.block_lt_of_cell? w _ hx164_6)).trans hx164_6
             replace hx164_7 := (HB.out.cell (World.block_lt_of_cell? w _ hx164_7)).trans hx164_7
             replace hx164_8 := (HB.out.cell (World.block_lt_of_cell? w _ hx164_8)).trans hx164_8
             replace hx164_9 := (HB.out.cell (World.block_lt_of_cell? w _ hx164_9)).trans hx164_9
             replace hx164_10 := (HB.out.cell (World.block_lt_of_cell? w _ hx164_10)).trans hx164_10
             replace hx164_11 := (HB.out.cell (World.block_lt_of_cell? w _ hx164_11)).trans hx164_11
             replace hx164_12 := (HB.out.cell (World.block_lt_of_cell? w _ hx164_12)).trans hx164_12
             replace hx164_13 := (HB.out.cell (World.block_lt_of_cell? w _ hx164_13)).trans hx164_13
             replace hx164_14 := (HB.out.cell (World.block_lt_of_cell? w _ hx164_14)).trans hx164_14
             replace hx164_15 := (HB.out.cell (World.block_lt_of_cell? w _ hx164_15)).trans hx164_15
             replace p164 := eq_true p164
             replace q164 := eq_true q164
             go_wp2_with (first | ((with_reducible refine gate_dst (N := 5) rfl ?_); (try (refine gate_guard (by rfl) ?_; dsimp only)); refine box_event ?hg (N := 5) ?hd (cs := #[.int .i64 0, .int .i64 0, .int .i64 0, .int .i64 0]) (t := 30) ?hr ?_; (case hd => rfl); (case hg => rfl); (case hr => first | (go_simp; done) | (go_simp; rfl)); intro gb168 hg w158 hbox hb; have n0_ := Aside0.mk (blk_below (g := g) (o := .cells #[.slice (some ad164) t0.length c0_0, .slice P1 t1.length c0_1, .slice P2 t2.length c0_2, .int .i64 m, .int .i64 a0_4] 26 (0, 0)) (by (with_reducible repeat (first | refine blk_drewN ?_ _ | refine blk_drew ?_ | refine blk_alloc ?_ _)); exact K.out) hb); have n1_ := Aside0.mk (below_step (by repeat (first | (with_reducible first | exact HB.out | apply below_alloc | apply pw_below_drewN | apply below_drew1 | refine below_set ?_ E.out) | exact HB.out)) hb); have n2_ := Aside0.mk (hbox); have n3_ := Aside0.mk ((by rw [hg]; exact (below_size (by repeat (first | (with_reducible first | exact HB.out | apply below_alloc | apply pw_below_drewN | apply below_drew1 | refine below_set ?_ E.out) | exact HB.out))) : w.heap.size ≤ gb168)); have n4_ := Aside0.mk ((by rw [hg]; exact (below_size (by repeat (first | (with_reducible first | exact HB.out | apply below_alloc | apply pw_below_drewN | apply below_drew1 | refine below_set ?_ E.out) | exact HB.out))) : w.heap.size ≤ gb168)); have n5_ := Aside0.mk ((by rw [hg]; exact Nat.ne_of_lt (blk_lt (g := g) (o := .cells #[.slice (some ad164) t0.length c0_0, .slice P1 t1.length c0_1, .slice P2 t2.length c0_2, .int .i64 m, .int .i64 a0_4] 26 (0, 0)) (by (with_reducible repeat (first | refine blk_drewN ?_ _ | refine blk_drew ?_ | refine blk_alloc ?_ _)); exact K.out)) : g ≠ gb168)); have n6_ := Aside0.mk ((by rw [hg]; exact Nat.ne_of_gt (blk_lt (g := g) (o := .cells #[.slice (some ad164) t0.length c0_0, .slice P1 t1.length c0_1, .slice P2 t2.length c0_2, .int .i64 m, .int .i64 a0_4] 26 (0, 0)) (by (with_reducible repeat (first | refine blk_drewN ?_ _ | refine blk_drew ?_ | refine blk_alloc ?_ _)); exact K.out)) : gb168 ≠ g)); clear K; clear HB; have K := n0_; have HB := n1_; have BK168 := n2_; have GW168 := n3_; have GE168 := n4_; have NB163_168 := n5_; have NB168_163 := n6_; clear n0_ n1_ n2_ n3_ n4_ n5_ n6_; clear hb hbox hg; have hnb159 := NB168_163.out; have hnc159 := NB163_168.out; have hcz160_0 : w158.cell? ⟨gb168, 0, none⟩ = some (.int .i64 0) := (blk_cell BK168.out 0).trans rfl; have hcz160_1 : w158.cell? ⟨gb168, 1, none⟩ = some (.int .i64 0) := (blk_cell BK168.out 1).trans rfl; have hcz160_2 : w158.cell? ⟨gb168, 2, none⟩ = some (.int .i64 0) := (blk_cell BK168.out 2).trans rfl; have hcz160_3 : w158.cell? ⟨gb168, 3, none⟩ = some (.int .i64 0) := (blk_cell BK168.out 3).trans rfl; have hfz160_0 := blk_frozen BK168.out 0; have hfz160_1 := blk_frozen BK168.out 1; have hfz160_2 := blk_frozen BK168.out 2; have hfz160_3 := blk_frozen BK168.out 3))
             go_ret
             exact ⟨by first | rfl | (simp [errW_none, errW_some] <;> rfl) | (simp [*, errW_none, errW_some] <;> rfl), by repeat (first | (with_reducible first | exact HB.out | apply below_alloc | apply pw_below_drewN | apply below_drew1 | refine below_set ?_ E.out | refine below_set ?_ GE168.out) | exact HB.out)⟩
            rw [if_neg c126] at H
            exact absurd H (by simp)
           rw [if_neg c20] at H
           exact absurd H (by simp)
          rw [if_neg c19] at H
          exact absurd H (by simp)
         rw [if_neg c18] at H
         have c18b0 : decide (x4_3 < 4) = false := decide_eq_false c18
         clear c18
         have H' := Aside0.mk H
         clear H
         go_wp2
         go_roundg k3
         case measure => have := HJ1.out; have := HK2.out; have := HK3.out; omega
         case rel => exact ⟨(wrap64 (x3_2 + 1)), (by first | rfl | (simp; done) | (simp [*]; done) | (congr 1; unfold wrap64; omega)), H', ⟨by have := HJ1.out; have := HK2.out; have := HK3.out; omega⟩, ⟨by (with_reducible repeat (first | refine blk_drewN ?_ _ | refine blk_drew ?_ | refine blk_alloc ?_ _)); exact K.out⟩, ⟨by repeat (first | (with_reducible first | exact HB.out | apply below_alloc | apply pw_below_drewN | apply below_drew1 | refine below_set ?_ E.out) | exact HB.out)⟩⟩
      rw [if_neg c16] at H
      have c16b0 : decide (x3_2 < (t0.length : Int)) = false := decide_eq_false c16
      clear c16
      have H' := Aside0.mk H
      clear H
      have hcz161_0 : wr.cell? ⟨g, 0, none⟩ = some (.slice P0 t0.length c0_0) := (blk_cell K.out 0).trans rfl
      have hcz161_1 : wr.cell? ⟨g, 1, none⟩ = some (.slice P1 t1.length c0_1) := (blk_cell K.out 1).trans rfl
      have hcz161_2 : wr.cell? ⟨g, 2, none⟩ = some (.slice P2 t2.length c0_2) := (blk_cell K.out 2).trans rfl
      have hcz161_3 : wr.cell? ⟨g, 3, none⟩ = some (.int .i64 m) := (blk_cell K.out 3).trans rfl
      have hcz161_4 : wr.cell? ⟨g, 4, none⟩ = some (.int .i64 a0_4) := (blk_cell K.out 4).trans rfl
      have hfz161_0 := blk_frozen K.out 0
      have hfz161_1 := blk_frozen K.out 1
      have hfz161_2 := blk_frozen K.out 2
      have hfz161_3 := blk_frozen K.out 3
      have hfz161_4 := blk_frozen K.out 4
      go_wp2
      go_loopg [6] k2 (fun kq v6 w' => ∃ (x6_3 : Int), v6 = .int .i64 x6_3 ∧ Aside0 (CfR.l2 kq x6_3 t0 t1 t2 m a0_4 = some r) ∧ Aside0 (kq ≤ k2) ∧ Aside0 (w'.heap[g]? = some (.cells #[(.slice P0 t0.length c0_0), (.slice P1 t1.length c0_1), (.slice P2 t2.length c0_2), .int .i64 m, .int .i64 a0_4] 26 (0, 0))) ∧ Aside0 (Below w.heap.size w w'))
      case atStart => exact ⟨(0), (by first | rfl | (simp; done) | (simp [*]; done) | (congr 1; unfold wrap64; omega)), H', ⟨Nat.le_refl _⟩, ⟨by (with_reducible repeat (first | refine blk_drewN ?_ _ | refine blk_drew ?_ | refine blk_alloc ?_ _)); exact K.out⟩, ⟨by repeat (first | (with_reducible first | exact HB.out | apply below_alloc | apply pw_below_drewN | apply below_drew1 | refine below_set ?_ E.out) | exact HB.out)⟩⟩
      case round =>
       clear H'
       try clear c1
       try clear p1
       try clear q1
       try clear hx1
       try clear c2
       try clear p2
       try clear p6
       try clear c9
       try clear c10
       try clear c11
       try clear c12
       try clear c13
       try clear c14
       try clear c15
       try clear c16
       try clear c16b0
       try clear p16
       try clear q16
       try clear hx16
       try clear c18
       try clear c18b0
       try clear c19
       try clear c20
       try clear p64
       try clear c91
       try clear c97
       try clear c97b0
       try clear c100
       try clear c102
       try clear c102b0
       try clear c105
       try clear c107
       try clear c107b0
       try clear c110
       try clear c112
       try clear c112b0
       try clear c112b1
       try clear c113
       try clear c113b0
       try clear c113b1
       try clear c116
       try clear c120
       try clear c124
       try clear c126
       try clear c127
       try clear c127b0
       try clear c130
       try clear c132
       try clear c132b0
       try clear c135
       try clear c137
       try clear c137b0
       try clear c140
       try clear c142
       try clear c142b0
       try clear c145
       try clear c147
       try clear c147b0
       try clear c147b1
       try clear c148
       try clear c148b0
       try clear c148b1
       try clear c151
       try clear c155
       try clear c159
       try clear hcz101_0
       try clear hcz101_1
       try clear hcz101_2
       try clear hcz101_3
       try clear hcz103_0
       try clear hcz103_1
       try clear hcz103_2
       try clear hcz103_3
       try clear hcz103_4
       try clear hcz106_0
       try clear hcz106_1
       try clear hcz106_2
       try clear hcz106_3
       try clear hcz108_0
       try clear hcz108_1
       try clear hcz108_2
       try clear hcz108_3
       try clear hcz108_4
       try clear hcz111_0
       try clear hcz111_1
       try clear hcz111_2
       try clear hcz111_3
       try clear hcz114_0
       try clear hcz114_1
       try clear hcz114_2
       try clear hcz114_3
       try clear hcz114_4
       try clear hcz117_0
       try clear hcz117_1
       try clear hcz117_2
       try clear hcz117_3
       try clear hcz118_0
       try clear hcz118_1
       try clear hcz118_2
       try clear hcz118_3
       try clear hcz118_4
       try clear hcz121_0
       try clear hcz121_1
       try clear hcz121_2
       try clear hcz121_3
       try clear hcz122_0
       try clear hcz122_1
       try clear hcz122_2
       try clear hcz122_3
       try clear hcz122_4
       try clear hcz125_0
       try clear hcz125_1
       try clear hcz125_2
       try clear hcz125_3
       try clear hcz128_0
       try clear hcz128_1
       try clear hcz128_2
       try clear hcz128_3
       try clear hcz128_4
       try clear hcz131_0
       try clear hcz131_1
       try clear hcz131_2
       try clear hcz131_3
       try clear hcz133_0
       try clear hcz133_1
       try clear hcz133_2
       try clear hcz133_3
       try clear hcz133_4
       try clear hcz136_0
       try clear hcz136_1
       try clear hcz136_2
       try clear hcz136_3
       try clear hcz138_0
       try clear hcz138_1
       try clear hcz138_2
       try clear hcz138_3
       try clear hcz138_4
       try clear hcz141_0
       try clear hcz141_1
       try clear hcz141_2
       try clear hcz141_3
       try clear hcz143_0
       try clear hcz143_1
       try clear hcz143_2
       try clear hcz143_3
       try clear hcz143_4
       try clear hcz146_0
       try clear hcz146_1
       try clear hcz146_2
       try clear hcz146_3
       try clear hcz149_0
       try clear hcz149_1
       try clear hcz149_2
       try clear hcz149_3
       try clear hcz149_4
       try clear hcz152_0
       try clear hcz152_1
       try clear hcz152_2
       try clear hcz152_3
       try clear hcz153_0
       try clear hcz153_1
       try clear hcz153_2
       try clear hcz153_3
       try clear hcz153_4
       try clear hcz156_0
       try clear hcz156_1
       try clear hcz156_2
       try clear hcz156_3
       try clear hcz157_0
       try clear hcz157_1
       try clear hcz157_2
       try clear hcz157_3
       try clear hcz157_4
       try clear hcz160_0
       try clear hcz160_1
       try clear hcz160_2
       try clear hcz160_3
       try clear hcz161_0
       try clear hcz161_1
       try clear hcz161_2
       try clear hcz161_3
       try clear hcz161_4
       try clear hfz101_0
       try clear hfz101_1
       try clear hfz101_2
       try clear hfz101_3
       try clear hfz103_0
       try clear hfz103_1
       try clear hfz103_2
       try clear hfz103_3
       try clear hfz103_4
       try clear hfz106_0
       try clear hfz106_1
       try clear hfz106_2
       try clear hfz106_3
       try clear hfz108_0
       try clear hfz108_1
       try clear hfz108_2
       try clear hfz108_3
       try clear hfz108_4
       try clear hfz111_0
       try clear hfz111_1
       try clear hfz111_2
       try clear hfz111_3
       try clear hfz114_0
       try clear hfz114_1
       try clear hfz114_2
       try clear hfz114_3
       try clear hfz114_4
       try clear hfz117_0
       try clear hfz117_1
       try clear hfz117_2
       try clear hfz117_3
       try clear hfz118_0
       try clear hfz118_1
       try clear hfz118_2
       try clear hfz118_3
       try clear hfz118_4
       try clear hfz121_0
       try clear hfz121_1
       try clear hfz121_2
       try clear hfz121_3
       try clear hfz122_0
       try clear hfz122_1
       try clear hfz122_2
       try clear hfz122_3
       try clear hfz122_4
       try clear hfz125_0
       try clear hfz125_1
       try clear hfz125_2
       try clear hfz125_3
       try clear hfz128_0
       try clear hfz128_1
       try clear hfz128_2
       try clear hfz128_3
       try clear hfz128_4
       try clear hfz131_0
       try clear hfz131_1
       try clear hfz131_2
       try clear hfz131_3
       try clear hfz133_0
       try clear hfz133_1
       try clear hfz133_2
       try clear hfz133_3
       try clear hfz133_4
       try clear hfz136_0
       try clear hfz136_1
       try clear hfz136_2
       try clear hfz136_3
       try clear hfz138_0
       try clear hfz138_1
       try clear hfz138_2
       try clear hfz138_3
       try clear hfz138_4
       try clear hfz141_0
       try clear hfz141_1
       try clear hfz141_2
       try clear hfz141_3
       try clear hfz143_0
       try clear hfz143_1
       try clear hfz143_2
       try clear hfz143_3
       try clear hfz143_4
       try clear hfz146_0
       try clear hfz146_1
       try clear hfz146_2
       try clear hfz146_3
       try clear hfz149_0
       try clear hfz149_1
       try clear hfz149_2
       try clear hfz149_3
       try clear hfz149_4
       try clear hfz152_0
       try clear hfz152_1
       try clear hfz152_2
       try clear hfz152_3
       try clear hfz153_0
       try clear hfz153_1
       try clear hfz153_2
       try clear hfz153_3
       try clear hfz153_4
       try clear hfz156_0
       try clear hfz156_1
       try clear hfz156_2
       try clear hfz156_3
       try clear hfz157_0
       try clear hfz157_1
       try clear hfz157_2
       try clear hfz157_3
       try clear hfz157_4
       try clear hfz160_0
       try clear hfz160_1
       try clear hfz160_2
       try clear hfz160_3
       try clear hfz161_0
       try clear hfz161_1
       try clear hfz161_2
       try clear hfz161_3
       try clear hfz161_4
       try clear hfz98_0
       try clear hfz98_1
       try clear hfz98_2
       try clear hfz98_3
       try clear hfz98_4
       try clear hx164_0
       try clear hx164_1
       try clear hx164_10
       try clear hx164_11
       try clear hx164_12
       try clear hx164_13
       try clear hx164_14
       try clear hx164_15
       try clear hx164_2
       try clear hx164_3
       try clear hx164_4
       try clear hx164_5
       try clear hx164_6
       try clear hx164_7
       try clear hx164_8
       try clear hx164_9
       try clear p164
       try clear q164
       obtain ⟨x6_3, rfl, HA, HK3, K, HB⟩ := hrel
       cases gk with
       | zero => exact absurd HA.out (by simp [CfR.l2])
       | succ k3 =>
        have H := HA.out
        clear HA
        simp only [CfR.l2] at H
        by_cases c162 : x6_3 < (t1.length : Int)
        ·rw [if_pos c162] at H
         have c162b0 : decide (x6_3 < (t1.length : Int)) = true := decide_eq_true c162
         clear c162
         have HC163 := Aside0.mk H
         clear H
         have hcz164_0 : wr.cell? ⟨g, 0, none⟩ = some (.slice P0 t0.length c0_0) := (blk_cell K.out 0).trans rfl
         have hcz164_1 : wr.cell? ⟨g, 1, none⟩ = some (.slice P1 t1.length c0_1) := (blk_cell K.out 1).trans rfl
         have hcz164_2 : wr.cell? ⟨g, 2, none⟩ = some (.slice P2 t2.length c0_2) := (blk_cell K.out 2).trans rfl
         have hcz164_3 : wr.cell? ⟨g, 3, none⟩ = some (.int .i64 m) := (blk_cell K.out 3).trans rfl
         have hcz164_4 : wr.cell? ⟨g, 4, none⟩ = some (.int .i64 a0_4) := (blk_cell K.out 4).trans rfl
         have hfz164_0 := blk_frozen K.out 0
         have hfz164_1 := blk_frozen K.out 1
         have hfz164_2 := blk_frozen K.out 2
         have hfz164_3 := blk_frozen K.out 3
         have hfz164_4 := blk_frozen K.out 4
         go_upto_region 15 with (fail)
         repeat (go_quiet (fail); go_upto_region 15 with (fail))
         go_cut [119] (fun v119 wc => ∃ (kq : Nat) (x119_162 : Bool), v119 = .bool x119_162 ∧ Aside0 (CfR.j4 kq x6_3 x119_162 t0 t1 t2 m a0_4 = some r) ∧ Aside0 (kq ≤ k3) ∧ Aside0 (wc.heap[g]? = some (.cells #[(.slice P0 t0.length c0_0), (.slice P1 t1.length c0_1), (.slice P2 t2.length c0_2), .int .i64 m, .int .i64 a0_4] 26 (0, 0))) ∧ Aside0 (Below w.heap.size w wc))
         case first =>
          have H := HC163.out
          clear HC163
          by_cases c165 : 0 ≤ x6_3
          ·rw [if_pos c165] at H
           have c165b0 : decide (0 ≤ x6_3) = true := decide_eq_true c165
           clear c165
           (first | rw [c165b0] | (simp only [i64_w, i32_w]; rw [c165b0]) | skip)
           replace H := Option.bind_eq_some_iff.mp H
           obtain ⟨t170, A1660, H⟩ := H
           replace H : (if t170 = true then (if x6_3 < (t2.length : Int) then (if (rd t2 x6_3) < 0 then (CfR.j4 k3 x6_3 true t0 t1 t2 m a0_4) else (CfR.j4 k3 x6_3 (decide ((rd t2 x6_3) > 1000000000000)) t0 t1 t2 m a0_4)) else (none)) else (CfR.j4 k3 x6_3 true t0 t1 t2 m a0_4)) = some r := H
           have A166 := Aside0.mk A1660
           clear A1660
           by_cases c167 : t170 = true
           ·subst c167
            have H1 : (if x6_3 < (t2.length : Int) then (if (rd t2 x6_3) < 0 then (CfR.j4 k3 x6_3 true t0 t1 t2 m a0_4) else (CfR.j4 k3 x6_3 (decide ((rd t2 x6_3) > 1000000000000)) t0 t1 t2 m a0_4)) else (none)) = some r := by rw [if_pos rfl] at H; exact H
            clear H
            have H := H1
            clear H1
            by_cases c168 : x6_3 < (t2.length : Int)
            ·rw [if_pos c168] at H
             have c168b0 : decide (x6_3 < (t2.length : Int)) = true := decide_eq_true c168
             clear c168
             by_cases c169 : (rd t2 x6_3) < 0
             ·rw [if_pos c169] at H
              have c169b0 : decide ((rd t2 x6_3) < 0) = true := decide_eq_true c169
              clear c169
              have H' := Aside0.mk H
              clear H
              have hcz170_0 : wr.cell? ⟨g, 0, none⟩ = some (.slice P0 t0.length c0_0) := (blk_cell K.out 0).trans rfl
              have hcz170_1 : wr.cell? ⟨g, 1, none⟩ = some (.slice P1 t1.length c0_1) := (blk_cell K.out 1).trans rfl
              have hcz170_2 : wr.cell? ⟨g, 2, none⟩ = some (.slice P2 t2.length c0_2) := (blk_cell K.out 2).trans rfl
              have hcz170_3 : wr.cell? ⟨g, 3, none⟩ = some (.int .i64 m) := (blk_cell K.out 3).trans rfl
              have hcz170_4 : wr.cell? ⟨g, 4, none⟩ = some (.int .i64 a0_4) := (blk_cell K.out 4).trans rfl
              have hfz170_0 := blk_frozen K.out 0
              have hfz170_1 := blk_frozen K.out 1
              have hfz170_2 := blk_frozen K.out 2
              have hfz170_3 := blk_frozen K.out 3
              have hfz170_4 := blk_frozen K.out 4
              have p169 : 0 ≤ (x6_3 : Int) := of_decide_eq_true (by first | (with_reducible assumption) | assumption)
              have q169 : x6_3 < (t1.length : Int) := of_decide_eq_true (by first | (with_reducible assumption) | assumption)
              obtain ⟨ad169, e169, hx169_0⟩ := Kd.at_string HR0_1.out x6_3 p169 q169
              cases e169
              replace hx169_0 := (HB.out.cell (World.block_lt_of_cell? w _ hx169_0)).trans hx169_0
              replace p169 := eq_true p169
              replace q169 := eq_true q169
              go_wp2_with (first | (go_at_call 20; (with_reducible refine (guichetref1_Pan.calls k3 (rdOf ByteArray.empty t1 x6_3) true _ A166.out).mono ?_); rintro e w' ⟨rfl, ⟨nd, rfl⟩⟩; (try first | exact ⟨rfl, _, World.drewN_drewN _ _ _⟩ | exact ⟨rfl, _, Eq.trans (World.drewN_drewN _ _ _) (congrArg (World.drewN _) (Nat.add_assoc _ _ _))⟩); have p171 : 0 ≤ (x6_3 : Int) := of_decide_eq_true (by first | (with_reducible assumption) | assumption); have q171 : x6_3 < (t2.length : Int) := of_decide_eq_true (by first | (with_reducible assumption) | assumption); obtain ⟨ad171, e171, hx171_0⟩ := Kd.at_int HR0_2.out x6_3 p171 q171; cases e171; replace hx171_0 := (HB.out.cell (World.block_lt_of_cell? w _ hx171_0)).trans hx171_0; replace p171 := eq_true p171; replace q171 := eq_true q171))
              go_meet
              case rel => exact ⟨_, (true), (by first | rfl | (simp; done) | (simp [*]; done) | (congr 1; unfold wrap64; omega)), H', ⟨by have := HJ1.out; have := HK2.out; have := HK3.out; first | omega | exact Nat.le_refl _⟩, ⟨by (with_reducible repeat (first | refine blk_drewN ?_ _ | refine blk_drew ?_ | refine blk_alloc ?_ _)); exact K.out⟩, ⟨by repeat (first | (with_reducible first | exact HB.out | apply below_alloc | apply pw_below_drewN | apply below_drew1 | refine below_set ?_ E.out) | exact HB.out)⟩⟩
             rw [if_neg c169] at H
             have c169b0 : decide ((rd t2 x6_3) < 0) = false := decide_eq_false c169
             clear c169
             have H' := Aside0.mk H
             clear H
             have hcz171_0 : wr.cell? ⟨g, 0, none⟩ = some (.slice P0 t0.length c0_0) := (blk_cell K.out 0).trans rfl
             have hcz171_1 : wr.cell? ⟨g, 1, none⟩ = some (.slice P1 t1.length c0_1) := (blk_cell K.out 1).trans rfl
             have hcz171_2 : wr.cell? ⟨g, 2, none⟩ = some (.slice P2 t2.length c0_2) := (blk_cell K.out 2).trans rfl
             have hcz171_3 : wr.cell? ⟨g, 3, none⟩ = some (.int .i64 m) := (blk_cell K.out 3).trans rfl
             have hcz171_4 : wr.cell? ⟨g, 4, none⟩ = some (.int .i64 a0_4) := (blk_cell K.out 4).trans rfl
             have hfz171_0 := blk_frozen K.out 0
             have hfz171_1 := blk_frozen K.out 1
             have hfz171_2 := blk_frozen K.out 2
             have hfz171_3 := blk_frozen K.out 3
             have hfz171_4 := blk_frozen K.out 4
             have p169 : 0 ≤ (x6_3 : Int) := of_decide_eq_true (by first | (with_reducible assumption) | assumption)
             have q169 : x6_3 < (t1.length : Int) := of_decide_eq_true (by first | (with_reducible assumption) | assumption)
             obtain ⟨ad169, e169, hx169_0⟩ := Kd.at_string HR0_1.out x6_3 p169 q169
             cases e169
             replace hx169_0 := (HB.out.cell (World.block_lt_of_cell? w _ hx169_0)).trans hx169_0
             replace p169 := eq_true p169
             replace q169 := eq_true q169
             go_wp2_with (first | (go_at_call 20; (with_reducible refine (guichetref1_Pan.calls k3 (rdOf ByteArray.empty t1 x6_3) true _ A166.out).mono ?_); rintro e w' ⟨rfl, ⟨nd, rfl⟩⟩; (try first | exact ⟨rfl, _, World.drewN_drewN _ _ _⟩ | exact ⟨rfl, _, Eq.trans (World.drewN_drewN _ _ _) (congrArg (World.drewN _) (Nat.add_assoc _ _ _))⟩); have p171 : 0 ≤ (x6_3 : Int) := of_decide_eq_true (by first | (with_reducible assumption) | assumption); have q171 : x6_3 < (t2.length : Int) := of_decide_eq_true (by first | (with_reducible assumption) | assumption); obtain ⟨ad171, e171, hx171_0⟩ := Kd.at_int HR0_2.out x6_3 p171 q171; cases e171; replace hx171_0 := (HB.out.cell (World.block_lt_of_cell? w _ hx171_0)).trans hx171_0; replace p171 := eq_true p171; replace q171 := eq_true q171; have p172 : 0 ≤ (x6_3 : Int) := of_decide_eq_true (by first | (with_reducible assumption) | assumption); have q172 : x6_3 < (t2.length : Int) := of_decide_eq_true (by first | (with_reducible assumption) | assumption); obtain ⟨ad172, e172, hx172_0⟩ := Kd.at_int HR0_2.out x6_3 p172 q172; obtain rfl : ad171 = ad172 := (by injection e172); replace hx172_0 := (HB.out.cell (World.block_lt_of_cell? w _ hx172_0)).trans hx172_0; replace p172 := eq_true p172; replace q172 := eq_true q172))
             go_meet
             case rel => exact ⟨_, (decide ((rd t2 x6_3) > 1000000000000)), (by first | rfl | (simp; done) | (simp [*]; done) | (congr 1; unfold wrap64; omega)), H', ⟨by have := HJ1.out; have := HK2.out; have := HK3.out; first | omega | exact Nat.le_refl _⟩, ⟨by (with_reducible repeat (first | refine blk_drewN ?_ _ | refine blk_drew ?_ | refine blk_alloc ?_ _)); exact K.out⟩, ⟨by repeat (first | (with_reducible first | exact HB.out | apply below_alloc | apply pw_below_drewN | apply below_drew1 | refine below_set ?_ E.out) | exact HB.out)⟩⟩
            rw [if_neg c168] at H
            exact absurd H (by simp)
           replace c167 := Bool.eq_false_iff.mpr c167
           subst c167
           have H1 : (CfR.j4 k3 x6_3 true t0 t1 t2 m a0_4) = some r := by rw [if_neg (show ¬ (false = true) by decide)] at H; exact H
           clear H
           have H := H1
           clear H1
           have H' := Aside0.mk H
           clear H
           have hcz172_0 : wr.cell? ⟨g, 0, none⟩ = some (.slice P0 t0.length c0_0) := (blk_cell K.out 0).trans rfl
           have hcz172_1 : wr.cell? ⟨g, 1, none⟩ = some (.slice P1 t1.length c0_1) := (blk_cell K.out 1).trans rfl
           have hcz172_2 : wr.cell? ⟨g, 2, none⟩ = some (.slice P2 t2.length c0_2) := (blk_cell K.out 2).trans rfl
           have hcz172_3 : wr.cell? ⟨g, 3, none⟩ = some (.int .i64 m) := (blk_cell K.out 3).trans rfl
           have hcz172_4 : wr.cell? ⟨g, 4, none⟩ = some (.int .i64 a0_4) := (blk_cell K.out 4).trans rfl
           have hfz172_0 := blk_frozen K.out 0
           have hfz172_1 := blk_frozen K.out 1
           have hfz172_2 := blk_frozen K.out 2
           have hfz172_3 := blk_frozen K.out 3
           have hfz172_4 := blk_frozen K.out 4
           have p169 : 0 ≤ (x6_3 : Int) := of_decide_eq_true (by first | (with_reducible assumption) | assumption)
           have q169 : x6_3 < (t1.length : Int) := of_decide_eq_true (by first | (with_reducible assumption) | assumption)
           obtain ⟨ad169, e169, hx169_0⟩ := Kd.at_string HR0_1.out x6_3 p169 q169
           cases e169
           replace hx169_0 := (HB.out.cell (World.block_lt_of_cell? w _ hx169_0)).trans hx169_0
           replace p169 := eq_true p169
           replace q169 := eq_true q169
           go_wp2_with (first | (go_at_call 20; (with_reducible refine (guichetref1_Pan.calls k3 (rdOf ByteArray.empty t1 x6_3) false _ A166.out).mono ?_); rintro e w' ⟨rfl, ⟨nd, rfl⟩⟩; (try first | exact ⟨rfl, _, World.drewN_drewN _ _ _⟩ | exact ⟨rfl, _, Eq.trans (World.drewN_drewN _ _ _) (congrArg (World.drewN _) (Nat.add_assoc _ _ _))⟩)))
           go_meet
           case rel => exact ⟨_, (true), (by first | rfl | (simp; done) | (simp [*]; done) | (congr 1; unfold wrap64; omega)), H', ⟨by have := HJ1.out; have := HK2.out; have := HK3.out; first | omega | exact Nat.le_refl _⟩, ⟨by (with_reducible repeat (first | refine blk_drewN ?_ _ | refine blk_drew ?_ | refine blk_alloc ?_ _)); exact K.out⟩, ⟨by repeat (first | (with_reducible first | exact HB.out | apply below_alloc | apply pw_below_drewN | apply below_drew1 | refine below_set ?_ E.out) | exact HB.out)⟩⟩
          rw [if_neg c165] at H
          exact absurd H (by simp)
         case rest =>
          clear HC163
          try clear c1
          try clear p1
          try clear q1
          try clear hx1
          try clear c2
          try clear p2
          try clear p6
          try clear c9
          try clear c10
          try clear c11
          try clear c12
          try clear c13
          try clear c14
          try clear c15
          try clear c16
          try clear c16b0
          try clear p16
          try clear q16
          try clear hx16
          try clear p17
          try clear q17
          try clear hx17
          try clear c18
          try clear c18b0
          try clear c19
          try clear c20
          try clear p64
          try clear c91
          try clear c97
          try clear c97b0
          try clear c100
          try clear c102
          try clear c102b0
          try clear c105
          try clear c107
          try clear c107b0
          try clear c110
          try clear c112
          try clear c112b0
          try clear c112b1
          try clear c113
          try clear c113b0
          try clear c113b1
          try clear c116
          try clear c120
          try clear c124
          try clear c126
          try clear c127
          try clear c127b0
          try clear c130
          try clear c132
          try clear c132b0
          try clear c135
          try clear c137
          try clear c137b0
          try clear c140
          try clear c142
          try clear c142b0
          try clear c145
          try clear c147
          try clear c147b0
          try clear c147b1
          try clear c148
          try clear c148b0
          try clear c148b1
          try clear c151
          try clear c155
          try clear c159
          try clear c162
          try clear c162b0
          try clear p164
          try clear q164
          try clear hx164
          try clear c165
          try clear c165b0
          try clear c167
          try clear c168
          try clear c168b0
          try clear c169
          try clear c169b0
          try clear p169
          try clear q169
          try clear hx169
          try clear p171
          try clear q171
          try clear hx171
          try clear p172
          try clear q172
          try clear hx172
          try clear hcz101_0
          try clear hcz101_1
          try clear hcz101_2
          try clear hcz101_3
          try clear hcz103_0
          try clear hcz103_1
          try clear hcz103_2
          try clear hcz103_3
          try clear hcz103_4
          try clear hcz106_0
          try clear hcz106_1
          try clear hcz106_2
          try clear hcz106_3
          try clear hcz108_0
          try clear hcz108_1
          try clear hcz108_2
          try clear hcz108_3
          try clear hcz108_4
          try clear hcz111_0
          try clear hcz111_1
          try clear hcz111_2
          try clear hcz111_3
          try clear hcz114_0
          try clear hcz114_1
          try clear hcz114_2
          try clear hcz114_3
          try clear hcz114_4
          try clear hcz117_0
          try clear hcz117_1
          try clear hcz117_2
          try clear hcz117_3
          try clear hcz118_0
          try clear hcz118_1
          try clear hcz118_2
          try clear hcz118_3
          try clear hcz118_4
          try clear hcz121_0
          try clear hcz121_1
          try clear hcz121_2
          try clear hcz121_3
          try clear hcz122_0
          try clear hcz122_1
          try clear hcz122_2
          try clear hcz122_3
          try clear hcz122_4
          try clear hcz125_0
          try clear hcz125_1
          try clear hcz125_2
          try clear hcz125_3
          try clear hcz128_0
          try clear hcz128_1
          try clear hcz128_2
          try clear hcz128_3
          try clear hcz128_4
          try clear hcz131_0
          try clear hcz131_1
          try clear hcz131_2
          try clear hcz131_3
          try clear hcz133_0
          try clear hcz133_1
          try clear hcz133_2
          try clear hcz133_3
          try clear hcz133_4
          try clear hcz136_0
          try clear hcz136_1
          try clear hcz136_2
          try clear hcz136_3
          try clear hcz138_0
          try clear hcz138_1
          try clear hcz138_2
          try clear hcz138_3
          try clear hcz138_4
          try clear hcz141_0
          try clear hcz141_1
          try clear hcz141_2
          try clear hcz141_3
          try clear hcz143_0
          try clear hcz143_1
          try clear hcz143_2
          try clear hcz143_3
          try clear hcz143_4
          try clear hcz146_0
          try clear hcz146_1
          try clear hcz146_2
          try clear hcz146_3
          try clear hcz149_0
          try clear hcz149_1
          try clear hcz149_2
          try clear hcz149_3
          try clear hcz149_4
          try clear hcz152_0
          try clear hcz152_1
          try clear hcz152_2
          try clear hcz152_3
          try clear hcz153_0
          try clear hcz153_1
          try clear hcz153_2
          try clear hcz153_3
          try clear hcz153_4
          try clear hcz156_0
          try clear hcz156_1
          try clear hcz156_2
          try clear hcz156_3
          try clear hcz157_0
          try clear hcz157_1
          try clear hcz157_2
          try clear hcz157_3
          try clear hcz157_4
          try clear hcz160_0
          try clear hcz160_1
          try clear hcz160_2
          try clear hcz160_3
          try clear hcz161_0
          try clear hcz161_1
          try clear hcz161_2
          try clear hcz161_3
          try clear hcz161_4
          try clear hcz164_0
          try clear hcz164_1
          try clear hcz164_2
          try clear hcz164_3
          try clear hcz164_4
          try clear hcz170_0
          try clear hcz170_1
          try clear hcz170_2
          try clear hcz170_3
          try clear hcz170_4
          try clear hcz171_0
          try clear hcz171_1
          try clear hcz171_2
          try clear hcz171_3
          try clear hcz171_4
          try clear hcz172_0
          try clear hcz172_1
          try clear hcz172_2
          try clear hcz172_3
          try clear hcz172_4
          try clear hfz101_0
          try clear hfz101_1
          try clear hfz101_2
          try clear hfz101_3
          try clear hfz103_0
          try clear hfz103_1
          try clear hfz103_2
          try clear hfz103_3
          try clear hfz103_4
          try clear hfz106_0
          try clear hfz106_1
          try clear hfz106_2
          try clear hfz106_3
          try clear hfz108_0
          try clear hfz108_1
          try clear hfz108_2
          try clear hfz108_3
          try clear hfz108_4
          try clear hfz111_0
          try clear hfz111_1
          try clear hfz111_2
          try clear hfz111_3
          try clear hfz114_0
          try clear hfz114_1
          try clear hfz114_2
          try clear hfz114_3
          try clear hfz114_4
          try clear hfz117_0
          try clear hfz117_1
          try clear hfz117_2
          try clear hfz117_3
          try clear hfz118_0
          try clear hfz118_1
          try clear hfz118_2
          try clear hfz118_3
          try clear hfz118_4
          try clear hfz121_0
          try clear hfz121_1
          try clear hfz121_2
          try clear hfz121_3
          try clear hfz122_0
          try clear hfz122_1
          try clear hfz122_2
          try clear hfz122_3
          try clear hfz122_4
          try clear hfz125_0
          try clear hfz125_1
          try clear hfz125_2
          try clear hfz125_3
          try clear hfz128_0
          try clear hfz128_1
          try clear hfz128_2
          try clear hfz128_3
          try clear hfz128_4
          try clear hfz131_0
          try clear hfz131_1
          try clear hfz131_2
          try clear hfz131_3
          try clear hfz133_0
          try clear hfz133_1
          try clear hfz133_2
          try clear hfz133_3
          try clear hfz133_4
          try clear hfz136_0
          try clear hfz136_1
          try clear hfz136_2
          try clear hfz136_3
          try clear hfz138_0
          try clear hfz138_1
          try clear hfz138_2
          try clear hfz138_3
          try clear hfz138_4
          try clear hfz141_0
          try clear hfz141_1
          try clear hfz141_2
          try clear hfz141_3
          try clear hfz143_0
          try clear hfz143_1
          try clear hfz143_2
          try clear hfz143_3
          try clear hfz143_4
          try clear hfz146_0
          try clear hfz146_1
          try clear hfz146_2
          try clear hfz146_3
          try clear hfz149_0
          try clear hfz149_1
          try clear hfz149_2
          try clear hfz149_3
          try clear hfz149_4
          try clear hfz152_0
          try clear hfz152_1
          try clear hfz152_2
          try clear hfz152_3
          try clear hfz153_0
          try clear hfz153_1
          try clear hfz153_2
          try clear hfz153_3
          try clear hfz153_4
          try clear hfz156_0
          try clear hfz156_1
          try clear hfz156_2
          try clear hfz156_3
          try clear hfz157_0
          try clear hfz157_1
          try clear hfz157_2
          try clear hfz157_3
          try clear hfz157_4
          try clear hfz160_0
          try clear hfz160_1
          try clear hfz160_2
          try clear hfz160_3
          try clear hfz161_0
          try clear hfz161_1
          try clear hfz161_2
          try clear hfz161_3
          try clear hfz161_4
          try clear hfz164_0
          try clear hfz164_1
          try clear hfz164_2
          try clear hfz164_3
          try clear hfz164_4
          try clear hfz170_0
          try clear hfz170_1
          try clear hfz170_2
          try clear hfz170_3
          try clear hfz170_4
          try clear hfz171_0
          try clear hfz171_1
          try clear hfz171_2
          try clear hfz171_3
          try clear hfz171_4
          try clear hfz172_0
          try clear hfz172_1
          try clear hfz172_2
          try clear hfz172_3
          try clear hfz172_4
          try clear hfz98_0
          try clear hfz98_1
          try clear hfz98_2
          try clear hfz98_3
          try clear hfz98_4
          try clear hx164_0
          try clear hx164_1
          try clear hx164_10
          try clear hx164_11
          try clear hx164_12
          try clear hx164_13
          try clear hx164_14
          try clear hx164_15
          try clear hx164_2
          try clear hx164_3
          try clear hx164_4
          try clear hx164_5
          try clear hx164_6
          try clear hx164_7
          try clear hx164_8
          try clear hx164_9
          try clear hx169_0
          try clear hx171_0
          try clear hx172_0
          try clear p1
          try clear p16
          try clear p164
          try clear p169
          try clear p171
          try clear p172
          try clear p2
          try clear p6
          try clear p64
          try clear q1
          try clear q16
          try clear q164
          try clear q169
          try clear q171
          try clear q172
          obtain ⟨kq, x119_162, rfl, HA, HJ162, K, HB⟩ := hcut
          cases kq with
          | zero => exact absurd HA.out (by simp [CfR.j4])
          | succ kj162 =>
           have H := HA.out
           clear HA
           simp only [CfR.j4] at H
           by_cases c173 : x119_162 = true
           ·subst c173
            have H1 : (some false) = some r := by rw [if_pos rfl] at H; exact H
            clear H
            have H := H1
            clear H1
            obtain rfl := Option.some.inj H
            go_wp2
            go_ret
            exact ⟨by first | rfl | (simp [errW_none, errW_some] <;> rfl) | (simp [*, errW_none, errW_some] <;> rfl), by repeat (first | (with_reducible first | exact HB.out | apply below_alloc | apply pw_below_drewN | apply below_drew1 | refine below_set ?_ E.out) | exact HB.out)⟩
           replace c173 := Bool.eq_false_iff.mpr c173
           subst c173
           have H1 : (CfR.l3 kj162 x6_3 0 t0 t1 t2 m a0_4) = some r := by rw [if_neg (show ¬ (false = true) by decide)] at H; exact H
           clear H
           have H := H1
           clear H1
           have H' := Aside0.mk H
           clear H
           go_wp2
           go_loopg [7] kj162 (fun kq v7 w' => ∃ (x7_5 : Int), v7 = .int .i64 x7_5 ∧ Aside0 (CfR.l3 kq x6_3 x7_5 t0 t1 t2 m a0_4 = some r) ∧ Aside0 (kq ≤ kj162) ∧ Aside0 (w'.heap[g]? = some (.cells #[(.slice P0 t0.length c0_0), (.slice P1 t1.length c0_1), (.slice P2 t2.length c0_2), .int .i64 m, .int .i64 a0_4] 26 (0, 0))) ∧ Aside0 (Below w.heap.size w w'))
           case atStart => exact ⟨(0), (by first | rfl | (simp; done) | (simp [*]; done) | (congr 1; unfold wrap64; omega)), H', ⟨Nat.le_refl _⟩, ⟨by (with_reducible repeat (first | refine blk_drewN ?_ _ | refine blk_drew ?_ | refine blk_alloc ?_ _)); exact K.out⟩, ⟨by repeat (first | (with_reducible first | exact HB.out | apply below_alloc | apply pw_below_drewN | apply below_drew1 | refine below_set ?_ E.out) | exact HB.out)⟩⟩
           case round =>
            clear H'
            try clear c1
            try clear p1
            try clear q1
            try clear hx1
            try clear c2
            try clear p2
            try clear p6
            try clear c9
            try clear c10
            try clear c11
            try clear c12
            try clear c13
            try clear c14
            try clear c15
            try clear c16
            try clear c16b0
            try clear p16
            try clear q16
            try clear hx16
            try clear c17
            try clear p17
            try clear q17
            try clear hx17
            try clear c18
            try clear c18b0
            try clear c19
            try clear c20
            try clear p64
            try clear c91
            try clear c97
            try clear c97b0
            try clear c100
            try clear c102
            try clear c102b0
            try clear c105
            try clear c107
            try clear c107b0
            try clear c110
            try clear c112
            try clear c112b0
            try clear c112b1
            try clear c113
            try clear c113b0
            try clear c113b1
            try clear c116
            try clear c120
            try clear c124
            try clear c126
            try clear c127
            try clear c127b0
            try clear c130
            try clear c132
            try clear c132b0
            try clear c135
            try clear c137
            try clear c137b0
            try clear c140
            try clear c142
            try clear c142b0
            try clear c145
            try clear c147
            try clear c147b0
            try clear c147b1
            try clear c148
            try clear c148b0
            try clear c148b1
            try clear c151
            try clear c155
            try clear c159
            try clear c162
            try clear c162b0
            try clear p164
            try clear q164
            try clear hx164
            try clear c165
            try clear c165b0
            try clear c167
            try clear c168
            try clear c168b0
            try clear c169
            try clear c169b0
            try clear p169
            try clear q169
            try clear hx169
            try clear p171
            try clear q171
            try clear hx171
            try clear p172
            try clear q172
            try clear hx172
            try clear c173
            try clear hcz101_0
            try clear hcz101_1
            try clear hcz101_2
            try clear hcz101_3
            try clear hcz103_0
            try clear hcz103_1
            try clear hcz103_2
            try clear hcz103_3
            try clear hcz103_4
            try clear hcz106_0
            try clear hcz106_1
            try clear hcz106_2
            try clear hcz106_3
            try clear hcz108_0
            try clear hcz108_1
            try clear hcz108_2
            try clear hcz108_3
            try clear hcz108_4
            try clear hcz111_0
            try clear hcz111_1
            try clear hcz111_2
            try clear hcz111_3
            try clear hcz114_0
            try clear hcz114_1
            try clear hcz114_2
            try clear hcz114_3
            try clear hcz114_4
            try clear hcz117_0
            try clear hcz117_1
            try clear hcz117_2
            try clear hcz117_3
            try clear hcz118_0
            try clear hcz118_1
            try clear hcz118_2
            try clear hcz118_3
            try clear hcz118_4
            try clear hcz121_0
            try clear hcz121_1
            try clear hcz121_2
            try clear hcz121_3
            try clear hcz122_0
            try clear hcz122_1
            try clear hcz122_2
            try clear hcz122_3
            try clear hcz122_4
            try clear hcz125_0
            try clear hcz125_1
            try clear hcz125_2
            try clear hcz125_3
            try clear hcz128_0
            try clear hcz128_1
            try clear hcz128_2
            try clear hcz128_3
            try clear hcz128_4
            try clear hcz131_0
            try clear hcz131_1
            try clear hcz131_2
            try clear hcz131_3
            try clear hcz133_0
            try clear hcz133_1
            try clear hcz133_2
            try clear hcz133_3
            try clear hcz133_4
            try clear hcz136_0
            try clear hcz136_1
            try clear hcz136_2
            try clear hcz136_3
            try clear hcz138_0
            try clear hcz138_1
            try clear hcz138_2
            try clear hcz138_3
            try clear hcz138_4
            try clear hcz141_0
            try clear hcz141_1
            try clear hcz141_2
            try clear hcz141_3
            try clear hcz143_0
            try clear hcz143_1
            try clear hcz143_2
            try clear hcz143_3
            try clear hcz143_4
            try clear hcz146_0
            try clear hcz146_1
            try clear hcz146_2
            try clear hcz146_3
            try clear hcz149_0
            try clear hcz149_1
            try clear hcz149_2
            try clear hcz149_3
            try clear hcz149_4
            try clear hcz152_0
            try clear hcz152_1
            try clear hcz152_2
            try clear hcz152_3
            try clear hcz153_0
            try clear hcz153_1
            try clear hcz153_2
            try clear hcz153_3
            try clear hcz153_4
            try clear hcz156_0
            try clear hcz156_1
            try clear hcz156_2
            try clear hcz156_3
            try clear hcz157_0
            try clear hcz157_1
            try clear hcz157_2
            try clear hcz157_3
            try clear hcz157_4
            try clear hcz160_0
            try clear hcz160_1
            try clear hcz160_2
            try clear hcz160_3
            try clear hcz161_0
            try clear hcz161_1
            try clear hcz161_2
            try clear hcz161_3
            try clear hcz161_4
            try clear hcz164_0
            try clear hcz164_1
            try clear hcz164_2
            try clear hcz164_3
            try clear hcz164_4
            try clear hcz170_0
            try clear hcz170_1
            try clear hcz170_2
            try clear hcz170_3
            try clear hcz170_4
            try clear hcz171_0
            try clear hcz171_1
            try clear hcz171_2
            try clear hcz171_3
            try clear hcz171_4
            try clear hcz172_0
            try clear hcz172_1
            try clear hcz172_2
            try clear hcz172_3
            try clear hcz172_4
            try clear hfz101_0
            try clear hfz101_1
            try clear hfz101_2
            try clear hfz101_3
            try clear hfz103_0
            try clear hfz103_1
            try clear hfz103_2
            try clear hfz103_3
            try clear hfz103_4
            try clear hfz106_0
            try clear hfz106_1
            try clear hfz106_2
            try clear hfz106_3
            try clear hfz108_0
            try clear hfz108_1
            try clear hfz108_2
            try clear hfz108_3
            try clear hfz108_4
            try clear hfz111_0
            try clear hfz111_1
            try clear hfz111_2
            try clear hfz111_3
            try clear hfz114_0
            try clear hfz114_1
            try clear hfz114_2
            try clear hfz114_3
            try clear hfz114_4
            try clear hfz117_0
            try clear hfz117_1
            try clear hfz117_2
            try clear hfz117_3
            try clear hfz118_0
            try clear hfz118_1
            try clear hfz118_2
            try clear hfz118_3
            try clear hfz118_4
            try clear hfz121_0
            try clear hfz121_1
            try clear hfz121_2
            try clear hfz121_3
            try clear hfz122_0
            try clear hfz122_1
            try clear hfz122_2
            try clear hfz122_3
            try clear hfz122_4
            try clear hfz125_0
            try clear hfz125_1
            try clear hfz125_2
            try clear hfz125_3
            try clear hfz128_0
            try clear hfz128_1
            try clear hfz128_2
            try clear hfz128_3
            try clear hfz128_4
            try clear hfz131_0
            try clear hfz131_1
            try clear hfz131_2
            try clear hfz131_3
            try clear hfz133_0
            try clear hfz133_1
            try clear hfz133_2
            try clear hfz133_3
            try clear hfz133_4
            try clear hfz136_0
            try clear hfz136_1
            try clear hfz136_2
            try clear hfz136_3
            try clear hfz138_0
            try clear hfz138_1
            try clear hfz138_2
            try clear hfz138_3
            try clear hfz138_4
            try clear hfz141_0
            try clear hfz141_1
            try clear hfz141_2
            try clear hfz141_3
            try clear hfz143_0
            try clear hfz143_1
            try clear hfz143_2
            try clear hfz143_3
            try clear hfz143_4
            try clear hfz146_0
            try clear hfz146_1
            try clear hfz146_2
            try clear hfz146_3
            try clear hfz149_0
            try clear hfz149_1
            try clear hfz149_2
            try clear hfz149_3
            try clear hfz149_4
            try clear hfz152_0
            try clear hfz152_1
            try clear hfz152_2
            try clear hfz152_3
            try clear hfz153_0
            try clear hfz153_1
            try clear hfz153_2
            try clear hfz153_3
            try clear hfz153_4
            try clear hfz156_0
            try clear hfz156_1
            try clear hfz156_2
            try clear hfz156_3
            try clear hfz157_0
            try clear hfz157_1
            try clear hfz157_2
            try clear hfz157_3
            try clear hfz157_4
            try clear hfz160_0
            try clear hfz160_1
            try clear hfz160_2
            try clear hfz160_3
            try clear hfz161_0
            try clear hfz161_1
            try clear hfz161_2
            try clear hfz161_3
            try clear hfz161_4
            try clear hfz164_0
            try clear hfz164_1
            try clear hfz164_2
            try clear hfz164_3
            try clear hfz164_4
            try clear hfz170_0
            try clear hfz170_1
            try clear hfz170_2
            try clear hfz170_3
            try clear hfz170_4
            try clear hfz171_0
            try clear hfz171_1
            try clear hfz171_2
            try clear hfz171_3
            try clear hfz171_4
            try clear hfz172_0
            try clear hfz172_1
            try clear hfz172_2
            try clear hfz172_3
            try clear hfz172_4
            try clear hfz98_0
            try clear hfz98_1
            try clear hfz98_2
            try clear hfz98_3
            try clear hfz98_4
            try clear hx164_0
            try clear hx164_1
            try clear hx164_10
            try clear hx164_11
            try clear hx164_12
            try clear hx164_13
            try clear hx164_14
            try clear hx164_15
            try clear hx164_2
            try clear hx164_3
            try clear hx164_4
            try clear hx164_5
            try clear hx164_6
            try clear hx164_7
            try clear hx164_8
            try clear hx164_9
            try clear hx169_0
            try clear hx171_0
            try clear hx172_0
            try clear p1
            try clear p16
            try clear p164
            try clear p169
            try clear p17
            try clear p171
            try clear p172
            try clear p2
            try clear p6
            try clear p64
            try clear q1
            try clear q16
            try clear q164
            try clear q169
            try clear q17
            try clear q171
            try clear q172
            obtain ⟨x7_5, rfl, HA, HK5, K, HB⟩ := hrel
            cases gk with
            | zero => exact absurd HA.out (by simp [CfR.l3])
            | succ k5 =>
             have H := HA.out
             clear HA
             simp only [CfR.l3] at H
             by_cases c174 : x7_5 < x6_3
             ·rw [if_pos c174] at H
              have c174b0 : decide (x7_5 < x6_3) = true := decide_eq_true c174
              clear c174
              by_cases c175 : 0 ≤ x7_5
              ·rw [if_pos c175] at H
               have c175b0 : decide (0 ≤ x7_5) = true := decide_eq_true c175
               clear c175
               by_cases c176 : x7_5 < (t1.length : Int)
               ·rw [if_pos c176] at H
                have c176b0 : decide (x7_5 < (t1.length : Int)) = true := decide_eq_true c176
                clear c176
                by_cases c177 : 0 ≤ x6_3
                ·rw [if_pos c177] at H
                 have c177b0 : decide (0 ≤ x6_3) = true := decide_eq_true c177
                 clear c177
                 by_cases c178 : x6_3 < (t1.length : Int)
                 ·rw [if_pos c178] at H
                  have c178b0 : decide (x6_3 < (t1.length : Int)) = true := decide_eq_true c178
                  clear c178
                  by_cases c179 : (rdOf ByteArray.empty t1 x7_5).toList = (rdOf ByteArray.empty t1 x6_3).toList
                  ·rw [if_pos c179] at H
                   have c179b0 : ((rdOf ByteArray.empty t1 x7_5).toList == (rdOf ByteArray.empty t1 x6_3).toList) = true := beq_iff_eq.mpr c179
                   have c179b1 : ((rdOf ByteArray.empty t1 x7_5).toList != (rdOf ByteArray.empty t1 x6_3).toList) = false := bne_eq_false_iff_eq.mpr c179
                   clear c179
                   obtain rfl := Option.some.inj H
                   have hcz180_0 : wr.cell? ⟨g, 0, none⟩ = some (.slice P0 t0.length c0_0) := (blk_cell K.out 0).trans rfl
                   have hcz180_1 : wr.cell? ⟨g, 1, none⟩ = some (.slice P1 t1.length c0_1) := (blk_cell K.out 1).trans rfl
                   have hcz180_2 : wr.cell? ⟨g, 2, none⟩ = some (.slice P2 t2.length c0_2) := (blk_cell K.out 2).trans rfl
                   have hcz180_3 : wr.cell? ⟨g, 3, none⟩ = some (.int .i64 m) := (blk_cell K.out 3).trans rfl
                   have hcz180_4 : wr.cell? ⟨g, 4, none⟩ = some (.int .i64 a0_4) := (blk_cell K.out 4).trans rfl
                   have hfz180_0 := blk_frozen K.out 0
                   have hfz180_1 := blk_frozen K.out 1
                   have hfz180_2 := blk_frozen K.out 2
                   have hfz180_3 := blk_frozen K.out 3
                   have hfz180_4 := blk_frozen K.out 4
                   have p173 : 0 ≤ (x7_5 : Int) := of_decide_eq_true (by first | (with_reducible assumption) | assumption)
                   have q173 : x7_5 < (t1.length : Int) := of_decide_eq_true (by first | (with_reducible assumption) | assumption)
                   obtain ⟨ad173, e173, hx173_0⟩ := Kd.at_string HR0_1.out x7_5 p173 q173
                   cases e173
                   replace hx173_0 := (HB.out.cell (World.block_lt_of_cell? w _ hx173_0)).trans hx173_0
                   replace p173 := eq_true p173
                   replace q173 := eq_true q173
                   have p174 : 0 ≤ (x6_3 : Int) := of_decide_eq_true (by first | (with_reducible assumption) | assumption)
                   have q174 : x6_3 < (t1.length : Int) := of_decide_eq_true (by first | (with_reducible assumption) | assumption)
                   obtain ⟨ad174, e174, hx174_0⟩ := Kd.at_string HR0_1.out x6_3 p174 q174
                   obtain rfl : ad173 = ad174 := (by injection e174)
                   replace hx174_0 := (HB.out.cell (World.block_lt_of_cell? w _ hx174_0)).trans hx174_0
                   replace p174 := eq_true p174
                   replace q174 := eq_true q174
                   go_wp2
                   repeat (go_quiet (fail); try go_wp2)
                   go_ret
                   exact ⟨by first | rfl | (simp [errW_none, errW_some] <;> rfl) | (simp [*, errW_none, errW_some] <;> rfl), by repeat (first | (with_reducible first | exact HB.out | apply below_alloc | apply pw_below_drewN | apply below_drew1 | refine below_set ?_ E.out) | exact HB.out)⟩
                  rw [if_neg c179] at H
                  have c179b0 : ((rdOf ByteArray.empty t1 x7_5).toList == (rdOf ByteArray.empty t1 x6_3).toList) = false := beq_eq_false_iff_ne.mpr c179
                  have c179b1 : ((rdOf ByteArray.empty t1 x7_5).toList != (rdOf ByteArray.empty t1 x6_3).toList) = true := bne_iff_ne.mpr c179
                  have H' := Aside0.mk H
                  clear H
                  have hcz181_0 : wr.cell? ⟨g, 0, none⟩ = some (.slice P0 t0.length c0_0) := (blk_cell K.out 0).trans rfl
                  have hcz181_1 : wr.cell? ⟨g, 1, none⟩ = some (.slice P1 t1.length c0_1) := (blk_cell K.out 1).trans rfl
                  have hcz181_2 : wr.cell? ⟨g, 2, none⟩ = some (.slice P2 t2.length c0_2) := (blk_cell K.out 2).trans rfl
                  have hcz181_3 : wr.cell? ⟨g, 3, none⟩ = some (.int .i64 m) := (blk_cell K.out 3).trans rfl
                  have hcz181_4 : wr.cell? ⟨g, 4, none⟩ = some (.int .i64 a0_4) := (blk_cell K.out 4).trans rfl
                  have hfz181_0 := blk_frozen K.out 0
                  have hfz181_1 := blk_frozen K.out 1
                  have hfz181_2 := blk_frozen K.out 2
                  have hfz181_3 := blk_frozen K.out 3
                  have hfz181_4 := blk_frozen K.out 4
                  have p173 : 0 ≤ (x7_5 : Int) := of_decide_eq_true (by first | (with_reducible assumption) | assumption)
                  have q173 : x7_5 < (t1.length : Int) := of_decide_eq_true (by first | (with_reducible assumption) | assumption)
                  obtain ⟨ad173, e173, hx173_0⟩ := Kd.at_string HR0_1.out x7_5 p173 q173
                  cases e173
                  replace hx173_0 := (HB.out.cell (World.block_lt_of_cell? w _ hx173_0)).trans hx173_0
                  replace p173 := eq_true p173
                  replace q173 := eq_true q173
                  have p174 : 0 ≤ (x6_3 : Int) := of_decide_eq_true (by first | (with_reducible assumption) | assumption)
                  have q174 : x6_3 < (t1.length : Int) := of_decide_eq_true (by first | (with_reducible assumption) | assumption)
                  obtain ⟨ad174, e174, hx174_0⟩ := Kd.at_string HR0_1.out x6_3 p174 q174
                  obtain rfl : ad173 = ad174 := (by injection e174)
                  replace hx174_0 := (HB.out.cell (World.block_lt_of_cell? w _ hx174_0)).trans hx174_0
                  replace p174 := eq_true p174
                  replace q174 := eq_true q174
                  go_wp2
                  repeat (go_quiet (fail); try go_wp2)
                  go_roundg k5
                  case measure => have := HJ1.out; have := HK2.out; have := HK3.out; have := HJ162.out; have := HK5.out; omega
                  case rel => exact ⟨(wrap64 (x7_5 + 1)), (by first | rfl | (simp; done) | (simp [*]; done) | (congr 1; unfold wrap64; omega)), H', ⟨by have := HJ1.out; have := HK2.out; have := HK3.out; have := HJ162.out; have := HK5.out; omega⟩, ⟨by (with_reducible repeat (first | refine blk_drewN ?_ _ | refine blk_drew ?_ | refine blk_alloc ?_ _)); exact K.out⟩, ⟨by repeat (first | (with_reducible first | exact HB.out | apply below_alloc | apply pw_below_drewN | apply below_drew1 | refine below_set ?_ E.out) | exact HB.out)⟩⟩
                 rw [if_neg c178] at H
                 exact absurd H (by simp)
                rw [if_neg c177] at H
                exact absurd H (by simp)
               rw [if_neg c176] at H
               exact absurd H (by simp)
              rw [if_neg c175] at H
              exact absurd H (by simp)
             rw [if_neg c174] at H
             have c174b0 : decide (x7_5 < x6_3) = false := decide_eq_false c174
             clear c174
             have H' := Aside0.mk H
             clear H
             go_wp2
             repeat (go_quiet (fail); try go_wp2)
             go_roundg k5
             case measure => have := HJ1.out; have := HK2.out; have := HK3.out; have := HJ162.out; have := HK5.out; omega
             case rel => exact ⟨(wrap64 (x6_3 + 1)), (by first | rfl | (simp; done) | (simp [*]; done) | (congr 1; unfold wrap64; omega)), H', ⟨by have := HJ1.out; have := HK2.out; have := HK3.out; have := HJ162.out; have := HK5.out; omega⟩, ⟨by (with_reducible repeat (first | refine blk_drewN ?_ _ | refine blk_drew ?_ | refine blk_alloc ?_ _)); exact K.out⟩, ⟨by repeat (first | (with_reducible first | exact HB.out | apply below_alloc | apply pw_below_drewN | apply below_drew1 | refine below_set ?_ E.out) | exact HB.out)⟩⟩
        rw [if_neg c162] at H
        have c162b0 : decide (x6_3 < (t1.length : Int)) = false := decide_eq_false c162
        clear c162
        obtain rfl := Option.some.inj H
        have hcz182_0 : wr.cell? ⟨g, 0, none⟩ = some (.slice P0 t0.length c0_0) := (blk_cell K.out 0).trans rfl
        have hcz182_1 : wr.cell? ⟨g, 1, none⟩ = some (.slice P1 t1.length c0_1) := (blk_cell K.out 1).trans rfl
        have hcz182_2 : wr.cell? ⟨g, 2, none⟩ = some (.slice P2 t2.length c0_2) := (blk_cell K.out 2).trans rfl
        have hcz182_3 : wr.cell? ⟨g, 3, none⟩ = some (.int .i64 m) := (blk_cell K.out 3).trans rfl
        have hcz182_4 : wr.cell? ⟨g, 4, none⟩ = some (.int .i64 a0_4) := (blk_cell K.out 4).trans rfl
        have hfz182_0 := blk_frozen K.out 0
        have hfz182_1 := blk_frozen K.out 1
        have hfz182_2 := blk_frozen K.out 2
        have hfz182_3 := blk_frozen K.out 3
        have hfz182_4 := blk_frozen K.out 4
        go_wp2
        repeat (go_quiet (fail); try go_wp2)
        go_ret
        exact ⟨by first | rfl | (simp [errW_none, errW_some] <;> rfl) | (simp [*, errW_none, errW_some] <;> rfl), by repeat (first | (with_reducible first | exact HB.out | apply below_alloc | apply pw_below_drewN | apply below_drew1 | refine below_set ?_ E.out) | exact HB.out)⟩

end Go.Proofs.YtjheabcffkbfkaaDoor.X
