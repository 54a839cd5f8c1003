/- table.Text of the one table that guichetlaw14.known asks. -/
import Derived.Test.YtjheabcffkbfkaaDoorT1
import Derived.Lib.Strings
import Derived.Lib.Slices
import Derived.Lib.Walk
import Derived.Lib.Builder
import Derived.Lib.AppendStr
import Derived.Lib.UnsafeStr
import Derived.WalkKit
import Derived.Laws.Externs
namespace Go.Proofs.YtjheabcffkbfkaaDoor.T
open Go.RowKit Go.Proofs.YtjheabcffkbfkaaDoorV.PrintWords Go.Proofs.YtjheabcffkbfkaaDoorV.PrintLast Go.Proofs.YtjheabcffkbfkaaDoorV.PrintMore
set_option linter.unusedVariables false
set_option linter.unusedSimpArgs false
theorem sizeBuilder : (Tryd.prog.info? 84).map (·.size) = some 2 := by kernel_rfl
theorem liesBuilder : liesAt Tryd.prog Tryd.prog.depth 84 (2 / Tryd.prog.cellsOf 84) 0 84 1 = true := by kernel_rfl
theorem infoByte : (Tryd.prog.info? 5).map (fun i => (i.zero, i.size, i.bytes)) = some (some (.int .u8 0), 1, 1) := by kernel_rfl
set_option maxHeartbeats 1000000 in
set_option maxRecDepth 100000 in
theorem copyCheck_used (b : Nat) (w : World) (h0 : w.cell? ⟨b, 0, none⟩ = some (.pointer (some ⟨b, 0, none⟩))) :
    Calls Tryd.prog 44 #[.pointer (some ⟨b, 0, none⟩)] w fun e w' => e = .returned (.tuple #[]) ∧ w' = w := by
  obtain ⟨j, hj, _⟩ := Option.map_eq_some_iff.1 sizeBuilder
  have t72 := Tryd.underlying84
  have t70 := Tryd.underlying81
  go_enter Tryd.func44, Tryd.ntmps44
  go_wp2
  rw [Lib.run_neq_ptr_same w _ Tryd.underlying81 hj]
  go_wp2
  go_end0
  exact ⟨rfl, rfl⟩
set_option maxHeartbeats 1000000 in
set_option maxRecDepth 100000 in
theorem copyCheck_fresh (b : Nat) (w : World) (h0 : w.cell? ⟨b, 0, none⟩ = some (.pointer none)) (hsh : w.shape? b = some (84, 2)) (hfz : w.frozen? ⟨b, 0, none⟩ = false) :
    Calls Tryd.prog 44 #[.pointer (some ⟨b, 0, none⟩)] w fun e w' => e = .returned (.tuple #[]) ∧ w' = w.setCell ⟨b, 0, none⟩ (.pointer (some ⟨b, 0, none⟩)) := by
  obtain ⟨j, hj, hjs⟩ := Option.map_eq_some_iff.1 sizeBuilder
  have t72 := Tryd.underlying84
  have t70 := Tryd.underlying81
  go_enter Tryd.func44, Tryd.ntmps44
  go_wp2
  rw [Lib.run_to_unsafe w ⟨b, 0, none⟩ Tryd.underlying81 Tryd.underlying116 hj (by rw [hjs]; decide) hsh (Nat.zero_lt_succ 1)]
  simp only [Result.andThen]
  rw [Oper.upon_value]
  go_wp2
  rw [run_callFunc_extern Tryd.func62 (by kernel_rfl) (by kernel_rfl) (by kernel_rfl) (e := Extern.AbiNoEscape.same) (by kernel_rfl)]
  rw [Lib.run_noEscape]
  simp only [Result.andThen]
  rw [Oper.upon_value]
  go_wp2
  rw [Lib.run_from_unsafe w ⟨b, 0, none⟩ Tryd.underlying116 Tryd.underlying81 hj hsh liesBuilder]
  simp only [Result.andThen]
  rw [Oper.upon_value]
  go_wp2
  go_end0
  exact ⟨rfl, rfl⟩
theorem copyCheck (B b : Nat) (bs : List Value) (w : World) (h : Lib.IsBuilder 84 5 B b bs w) :
    Calls Tryd.prog 44 #[.pointer (some ⟨b, 0, none⟩)] w fun e w' => e = .returned (.tuple #[]) ∧ (Lib.BuilderAt 84 5 B b (.pointer (some ⟨b, 0, none⟩)) bs w' ∧ Below B w w') := by
  rcases h with h | h
  · refine (copyCheck_fresh b w h.cell0 h.shape h.frozen0).mono ?_
    rintro e w' ⟨rfl, rfl⟩
    exact ⟨rfl, h.used _, (Below.refl B w).setCell (p := ⟨b, 0, none⟩) h.1 _⟩
  · refine (copyCheck_used b w h.cell0).mono ?_
    rintro e w' ⟨rfl, rfl⟩
    exact ⟨rfl, h, Below.refl B _⟩
set_option maxHeartbeats 2000000 in
set_option maxRecDepth 100000 in
theorem writeString (B b : Nat) (bs : List Value) (s : ByteArray) (w : World) (h : Lib.IsBuilder 84 5 B b bs w) (hlen : bs.length + s.size ≤ 140737488355328) (hBw : B ≤ w.heap.size) :
    Calls Tryd.prog 33 #[.pointer (some ⟨b, 0, none⟩), .string s] w fun e w' => e = .returned (.tuple #[.int .i64 s.size, .nilIface]) ∧ (Lib.BuilderAt 84 5 B b (.pointer (some ⟨b, 0, none⟩)) (bs ++ Lib.strCells s) w' ∧ Below B w w') := by
  obtain ⟨i0, hi, hz0, hz1, hz2⟩ := info_parts infoByte
  have t72 := Tryd.underlying84
  have t70 := Tryd.underlying81
  go_enter Tryd.func33, Tryd.ntmps33
  go_wp2_with (go_at_call 44; refine (copyCheck B b bs _ h).mono ?_)
  rintro e w1 ⟨rfl, h1, hb1⟩
  obtain ⟨hB, v, hbk, hown, hne⟩ := h1
  have c0 : w1.cell? ⟨b, 0, none⟩ = some (.pointer (some ⟨b, 0, none⟩)) := by rw [Lib.cell_of_heap hbk]; rfl
  have c1 : w1.cell? ⟨b, 1, none⟩ = some v := by rw [Lib.cell_of_heap hbk]; rfl
  go_wp2_with (at_builtin; refine Lib.wpList_append_own_string _ rfl _ _ 82 9 rfl B 5 i0 Tryd.underlying82 Tryd.underlying9 hi hz0 hz1 hz2 _ _ _ rfl hown s rfl ?c3 ?c4 ?c5 ?_)
  case c3 => unfold maxLen; omega
  case c4 => omega
  case c5 => have := hb1.size; omega
  intro v' w2 hown' hgrow _
  have hlt : b < w1.heap.size := by
    rcases Nat.lt_or_ge b w1.heap.size with h' | h'
    · exact h'
    · simp [Array.getElem?_eq_none h'] at hbk
  have hb2 : w2.heap[b]? = some (.cells #[.pointer (some ⟨b, 0, none⟩), v] 84 (0, 0)) := by
    rw [hgrow.block b hlt (fun e => hne e.symm)]
    exact hbk
  have d0 : w2.cell? ⟨b, 0, none⟩ = some (.pointer (some ⟨b, 0, none⟩)) := by rw [Lib.cell_of_heap hb2]; rfl
  have d1 : w2.cell? ⟨b, 1, none⟩ = some v := by rw [Lib.cell_of_heap hb2]; rfl
  have f1 : w2.frozen? ⟨b, 1, none⟩ = false := Lib.frozen_of_heap hb2 1
  obtain ⟨ao, n', cap, rfl⟩ : ∃ ao n' cap, v' = .slice ao n' cap := by
    rcases hown'.2 with ⟨hv, _⟩ | ⟨g, cap, cur, hv, _⟩
    · exact ⟨_, _, _, hv⟩
    · exact ⟨_, _, _, hv⟩
  go_wp2
  go_ret2
  refine ⟨rfl, ?_, ?_⟩
  · exact Lib.BuilderAt.put (T := 84) (e := 5) hB hb2 (bs' := bs ++ Lib.strCells s) (by simpa [Lib.strCells_length] using hown') (by decide)
  · exact (hb1.grown hgrow (by have := hb1.size; omega) (fun k hk => (hown.lt k hk).1)).setCell (p := ⟨b, 1, none⟩) hB _

def lineA : ByteArray := ⟨#[48, 48, 48, 32, 65, 32, 48, 48, 49, 32, 48, 48, 48]⟩
def lineZ : ByteArray := ⟨#[48, 48, 49, 32, 90, 32, 48, 48, 48, 32, 48, 48, 48]⟩
def isTwo (l : List S43) : Bool := match l with
  | [a, b] => a.f0 == 0 && a.f1 == 65 && a.f2 == 1 && a.f3 == 0 && b.f0 == 1 && b.f1 == 90 && b.f2 == 0 && b.f3 == 0
  | _ => false
theorem isTwo_eq (l : List S43) (h : isTwo l = true) : l = [⟨0, 65, 1, 0⟩, ⟨1, 90, 0, 0⟩] := by
  unfold isTwo at h
  split at h
  · rename_i a b
    obtain ⟨a0, a1, a2, a3⟩ := a
    obtain ⟨b0, b1, b2, b3⟩ := b
    simp at h
    obtain ⟨⟨⟨⟨⟨⟨⟨rfl, rfl⟩, rfl⟩, rfl⟩, rfl⟩, rfl⟩, rfl⟩, rfl⟩ := h
    rfl
  · cases h
def table_Text.f (l : List S43) : Option ByteArray := if isTwo l = true then some ⟨#[48, 48, 48, 32, 65, 32, 48, 48, 49, 32, 48, 48, 48, 10, 48, 48, 49, 32, 90, 32, 48, 48, 48, 32, 48, 48, 48, 10]⟩ else none
theorem builder_below {B b : Nat} {bs : List Value} {w w1 : World} (h : Lib.IsBuilder 84 5 B b bs w) (hb : Below w.heap.size w w1) : Lib.IsBuilder 84 5 B b bs w1 := by
  rcases h with ⟨h1, v, h2, h3, h4⟩ | ⟨h1, v, h2, h3, h4⟩
  · exact .inl ⟨h1, v, blk_below h2 hb, pw_own_below h3 hb, h4⟩
  · exact .inr ⟨h1, v, blk_below h2 hb, pw_own_below h3 hb, h4⟩
def soFar (j : Nat) : List Value := if j = 0 then [] else if j = 1 then ([] ++ Lib.strCells (lineA ++ (⟨#[10]⟩ : ByteArray))) else ([] ++ Lib.strCells (lineA ++ (⟨#[10]⟩ : ByteArray)) ++ Lib.strCells (lineZ ++ (⟨#[10]⟩ : ByteArray)))
set_option maxHeartbeats 2000000 in
set_option maxRecDepth 100000 in
theorem table_Text.calls (A0 : Option Addr) (c0 : Nat) (l : List S43) (r : ByteArray) (w : World) (hT : TabH w) (hr0 : Kd.C k43 w A0 l.length l) (hc0 : l.length ≤ c0) (h : table_Text.f l = some r) :
    Calls Tryd.prog 23 #[.slice A0 l.length c0] w fun e w' => e = .returned (.string r) ∧ Below w.heap.size w w' := by
  unfold table_Text.f at h
  split at h
  rotate_left
  · cases h
  rename_i h2
  obtain rfl := isTwo_eq l h2
  obtain rfl := Option.some.inj h
  clear h h2
  have hu43 := Tryd.underlying43
  have hu84 := Tryd.underlying84
  have HR := Aside0.mk hr0
  have HT := Aside0.mk hT
  have r0 : table_right.f 10 0 65 1 0 = some true := by kernel_rfl
  have r1 : table_right.f 10 1 90 0 0 = some true := by kernel_rfl
  have l0 : table_line.f 0 65 1 0 = some lineA := by kernel_rfl
  have l1 : table_line.f 1 90 0 0 = some lineZ := by kernel_rfl
  have R0 := Aside0.mk r0
  have R1 := Aside0.mk r1
  have L0 := Aside0.mk l0
  have L1 := Aside0.mk l1
  clear hr0 hc0 hT r0 r1 l0 l1
  go_enter Tryd.func23, Tryd.ntmps23
  go_upto_region 2 with (fail)
  have HBD := Aside0.mk (show Lib.IsBuilder 84 5 w.heap.size w.heap.size (soFar 0) (w.alloc (.cells #[.pointer none, .slice none 0 0] 84 (0, 0))) from .inl ⟨Nat.le_refl _, .slice none 0 0, blk_new w _, own_nil _ _ _ _, by simp [Value.ownBlock]⟩)
  have HB := Aside0.mk (below_alloc (Below.refl w.heap.size w) (.cells #[.pointer none, .slice none 0 0] 84 (0, 0)))
  generalize w.alloc (.cells #[.pointer none, .slice none 0 0] 84 (0, 0)) = w1 at HBD HB ⊢
  go_wp2
  go_loopg [8] 2 (fun kq v8 w' => ∃ j : Nat, v8 = .int .i64 (j : Int) ∧ Aside0 (j ≤ 2 ∧ kq = 2 - j) ∧ Aside0 (Lib.IsBuilder 84 5 w.heap.size w.heap.size (soFar j) w') ∧ Aside0 (Below w.heap.size w w'))
  case atStart => exact ⟨0, rfl, ⟨by omega⟩, HBD, HB⟩
  case round =>
    clear HBD HB
    obtain ⟨j, rfl, HJ, HBD, HB⟩ := hrel
    by_cases c1 : j < 2
    · have c1a : decide ((j : Int) < 2) = true := decide_eq_true (by omega)
      have c1b : decide (j < 2) = true := decide_eq_true c1
      obtain ⟨ad, e1, x0, x1, x2, x3⟩ := at_T43 HR.out (j : Int) (by omega) (by simp; omega)
      subst e1
      simp only [Int.toNat_natCast] at x0 x1 x2 x3
      have lift : ∀ {a : Addr} {v : Value}, w.cell? a = some v → wr.cell? a = some v := fun {a v} h => (HB.out.cell (World.block_lt_of_cell? w _ h)).trans h
      replace x0 := lift x0
      replace x1 := lift x1
      replace x2 := lift x2
      replace x3 := lift x3
      clear lift
      obtain ⟨s, hs⟩ : ∃ s, rd_T43 [⟨0, 65, 1, 0⟩, ⟨1, 90, 0, 0⟩] (j : Int) = s := ⟨_, rfl⟩
      rw [hs] at x0 x1 x2 x3
      have HSE := Aside0.mk hs
      clear hs
      go_upto_region 5 with (fail)
      clear x0 x1 x2 x3
      have KB := Aside0.mk (blk_new wr (.cells #[.int .i64 s.f0, .int .u8 s.f1, .int .i64 s.f2, .int .i64 s.f3] 43 (0, 0)))
      have n0_ := Aside0.mk (builder_below HBD.out (below_alloc (Below.refl wr.heap.size wr) (.cells #[.int .i64 s.f0, .int .u8 s.f1, .int .i64 s.f2, .int .i64 s.f3] 43 (0, 0))))
      have n1_ := Aside0.mk (below_alloc HB.out (.cells #[.int .i64 s.f0, .int .u8 s.f1, .int .i64 s.f2, .int .i64 s.f3] 43 (0, 0)))
      have hgb : w.heap.size ≤ wr.heap.size := HB.out.size
      clear HBD HB
      have HBD := n0_
      have HB := n1_
      clear n0_ n1_
      generalize wr.alloc (.cells #[.int .i64 s.f0, .int .u8 s.f1, .int .i64 s.f2, .int .i64 s.f3] 43 (0, 0)) = w3 at KB HBD HB ⊢
      generalize wr.heap.size = gb at KB hgb ⊢
      have hj : j = 0 ∨ j = 1 := by omega
      rcases hj with rfl | rfl
      · skip
        obtain rfl : s = ⟨0, 65, 1, 0⟩ := HSE.out.symm.trans rfl
        have HBD := Aside0.mk (show Lib.IsBuilder 84 5 w.heap.size w.heap.size [] w3 from HBD.out)
        have k0 : w3.cell? ⟨gb, 0, none⟩ = some (.int .i64 0) := (blk_cell KB.out 0).trans rfl
        have k1 : w3.cell? ⟨gb, 1, none⟩ = some (.int .u8 65) := (blk_cell KB.out 1).trans rfl
        have k2 : w3.cell? ⟨gb, 2, none⟩ = some (.int .i64 1) := (blk_cell KB.out 2).trans rfl
        have k3 : w3.cell? ⟨gb, 3, none⟩ = some (.int .i64 0) := (blk_cell KB.out 3).trans rfl
        go_wp2_with fail
        (with_reducible refine (table_right.calls 10 0 65 1 0 true _ R0.out).mono ?_)
        rintro e w4 ⟨rfl, hb⟩
        have n0_ := Aside0.mk (builder_below HBD.out hb)
        have n1_ := Aside0.mk (below_step HB.out hb)
        have n2_ := Aside0.mk (blk_below KB.out hb)
        clear HBD HB KB k0 k1 k2 k3 hb
        have HBD := n0_
        have HB := n1_
        have KB := n2_
        clear n0_ n1_ n2_
        have k0 : w4.cell? ⟨gb, 0, none⟩ = some (.int .i64 0) := (blk_cell KB.out 0).trans rfl
        have k1 : w4.cell? ⟨gb, 1, none⟩ = some (.int .u8 65) := (blk_cell KB.out 1).trans rfl
        have k2 : w4.cell? ⟨gb, 2, none⟩ = some (.int .i64 1) := (blk_cell KB.out 2).trans rfl
        have k3 : w4.cell? ⟨gb, 3, none⟩ = some (.int .i64 0) := (blk_cell KB.out 3).trans rfl
        go_wp2_with fail
        (with_reducible refine (table_line.calls 0 65 1 0 lineA _ (TabH.below HT.out HB.out) L0.out).mono ?_)
        rintro e w5 ⟨rfl, hb⟩
        have n0_ := Aside0.mk (builder_below HBD.out hb)
        have n1_ := Aside0.mk (below_step HB.out hb)
        clear HBD HB KB k0 k1 k2 k3 hb
        have HBD := n0_
        have HB := n1_
        clear n0_ n1_
        go_wp2_with fail
        refine (writeString w.heap.size w.heap.size _ _ _ HBD.out (by decide) HB.out.size).mono ?_
        rintro e w6 ⟨rfl, h1, hb⟩
        have HBD3 := Aside0.mk (show Lib.IsBuilder 84 5 w.heap.size w.heap.size ([] ++ Lib.strCells (lineA ++ (⟨#[10]⟩ : ByteArray))) w6 from .inr h1)
        have HB3 := Aside0.mk (HB.out.trans hb)
        clear HBD HB h1 hb
        go_wp2
        go_roundg (2 - (0 + 1))
        case measure => have := HJ.out; omega
        case rel => exact ⟨0 + 1, by first | rfl | (congr 1; unfold wrap64; omega), ⟨by omega⟩, HBD3, HB3⟩
      · skip
        obtain rfl : s = ⟨1, 90, 0, 0⟩ := HSE.out.symm.trans rfl
        have HBD := Aside0.mk (show Lib.IsBuilder 84 5 w.heap.size w.heap.size ([] ++ Lib.strCells (lineA ++ (⟨#[10]⟩ : ByteArray))) w3 from HBD.out)
        have k0 : w3.cell? ⟨gb, 0, none⟩ = some (.int .i64 1) := (blk_cell KB.out 0).trans rfl
        have k1 : w3.cell? ⟨gb, 1, none⟩ = some (.int .u8 90) := (blk_cell KB.out 1).trans rfl
        have k2 : w3.cell? ⟨gb, 2, none⟩ = some (.int .i64 0) := (blk_cell KB.out 2).trans rfl
        have k3 : w3.cell? ⟨gb, 3, none⟩ = some (.int .i64 0) := (blk_cell KB.out 3).trans rfl
        go_wp2_with fail
        (with_reducible refine (table_right.calls 10 1 90 0 0 true _ R1.out).mono ?_)
        rintro e w4 ⟨rfl, hb⟩
        have n0_ := Aside0.mk (builder_below HBD.out hb)
        have n1_ := Aside0.mk (below_step HB.out hb)
        have n2_ := Aside0.mk (blk_below KB.out hb)
        clear HBD HB KB k0 k1 k2 k3 hb
        have HBD := n0_
        have HB := n1_
        have KB := n2_
        clear n0_ n1_ n2_
        have k0 : w4.cell? ⟨gb, 0, none⟩ = some (.int .i64 1) := (blk_cell KB.out 0).trans rfl
        have k1 : w4.cell? ⟨gb, 1, none⟩ = some (.int .u8 90) := (blk_cell KB.out 1).trans rfl
        have k2 : w4.cell? ⟨gb, 2, none⟩ = some (.int .i64 0) := (blk_cell KB.out 2).trans rfl
        have k3 : w4.cell? ⟨gb, 3, none⟩ = some (.int .i64 0) := (blk_cell KB.out 3).trans rfl
        go_wp2_with fail
        (with_reducible refine (table_line.calls 1 90 0 0 lineZ _ (TabH.below HT.out HB.out) L1.out).mono ?_)
        rintro e w5 ⟨rfl, hb⟩
        have n0_ := Aside0.mk (builder_below HBD.out hb)
        have n1_ := Aside0.mk (below_step HB.out hb)
        clear HBD HB KB k0 k1 k2 k3 hb
        have HBD := n0_
        have HB := n1_
        clear n0_ n1_
        go_wp2_with fail
        refine (writeString w.heap.size w.heap.size _ _ _ HBD.out (by decide) HB.out.size).mono ?_
        rintro e w6 ⟨rfl, h1, hb⟩
        have HBD3 := Aside0.mk (show Lib.IsBuilder 84 5 w.heap.size w.heap.size ([] ++ Lib.strCells (lineA ++ (⟨#[10]⟩ : ByteArray)) ++ Lib.strCells (lineZ ++ (⟨#[10]⟩ : ByteArray))) w6 from .inr h1)
        have HB3 := Aside0.mk (HB.out.trans hb)
        clear HBD HB h1 hb
        go_wp2
        go_roundg (2 - (1 + 1))
        case measure => have := HJ.out; omega
        case rel => exact ⟨1 + 1, by first | rfl | (congr 1; unfold wrap64; omega), ⟨by omega⟩, HBD3, HB3⟩
    · have c1a : decide ((j : Int) < 2) = false := decide_eq_false (by omega)
      have c1b : decide (j < 2) = false := decide_eq_false c1
      have hj : j = 2 := by have := HJ.out; omega
      subst hj
      have hbd : Lib.IsBuilder 84 5 w.heap.size w.heap.size (Lib.byteCells [48, 48, 48, 32, 65, 32, 48, 48, 49, 32, 48, 48, 48, 10, 48, 48, 49, 32, 90, 32, 48, 48, 48, 32, 48, 48, 48, 10]) wr := HBD.out
      have HBD2 := Aside0.mk hbd
      clear hbd HBD
      go_wp2_with fail
      refine (Tryd.Builder_String_any w.heap.size w.heap.size _ _ HBD2.out HB.out.size).mono ?_
      rintro e w6 ⟨rfl, hb⟩
      have HB3 := Aside0.mk (HB.out.trans hb)
      clear HB hb
      go_wp2
      go_ret
      exact ⟨rfl, HB3.out⟩
end Go.Proofs.YtjheabcffkbfkaaDoor.T
