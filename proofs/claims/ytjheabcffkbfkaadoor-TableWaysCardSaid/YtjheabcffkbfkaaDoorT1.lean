-- Written by a program of this session (wip/xprint.py) for this claim.
import Derived.Test.YtjheabcffkbfkaaDoorT0
import Derived.Test.YtjheabcffkbfkaaDoorTB
namespace Go.Proofs.YtjheabcffkbfkaaDoor.T
open Go.RowKit Go.Proofs.YtjheabcffkbfkaaDoorV.PrintWords Go.Proofs.YtjheabcffkbfkaaDoorV.PrintLast Go.Proofs.YtjheabcffkbfkaaDoorV.PrintMore
attribute [local go_sem] max2_int min2_int max_two min_two max_three min_three max_four min_four   -- for this text's walks alone
set_option linter.unusedVariables false
set_option linter.unusedSimpArgs false

-- by hand: function 45 (strings_IndexByte)

/-! ### table_is: function 36 -/
def table_is.f (a0 : Int) (a1 : ByteArray) : Option (Bool) := (strings_IndexByte.f a1 a0).bind fun t101 => (some (decide (t101 ≥ 0)))
set_option maxHeartbeats 8000000 in
set_option maxRecDepth 100000 in
theorem table_is.calls (a0 : Int) (a1 : ByteArray) (r : Bool) (w : World) (h : table_is.f a0 a1 = some r) :
    Calls Tryd.prog 36 #[.int .u8 a0, .string a1] w fun e w' => e = .returned (.bool r) ∧ Below w.heap.size w w' := by
  have HB := Aside0.mk (Below.refl w.heap.size w)
  have H : ((strings_IndexByte.f a1 a0).bind fun t101 => (some (decide (t101 ≥ 0)))) = some r := h
  clear h
  replace H := Option.bind_eq_some_iff.mp H
  obtain ⟨t101, A30, H⟩ := H
  replace H : (some (decide (t101 ≥ 0))) = some r := H
  have A3 := Aside0.mk A30
  clear A30
  obtain rfl := Option.some.inj H
  go_enter Tryd.func36, Tryd.ntmps36
  go_wp2_with (first | ((with_reducible refine gate_callee (f := 45) rfl ?_); refine goesL_ (some 7) rfl rfl Tryd.func45 (by kernel_rfl) rfl #[.string a1, .int .u8 a0] rfl (by (try simp only [List.map_toArray, List.map_cons, List.map_nil]); first | done | rfl | (simp only [List.length_drop, List.length_take]; rfl)) ?_; (with_reducible refine (strings_IndexByte.calls a1 a0 t101 _ A3.out).mono ?_); rintro e w4 ⟨rfl, hb⟩; refine ⟨_, rfl, ?_⟩; have n0_ := Aside0.mk (below_step (by repeat (first | (with_reducible first | exact HB.out | apply below_alloc | apply pw_below_drewN | apply below_drew1) | exact HB.out)) hb); clear HB; have HB := n0_; clear n0_; (try clear hb); (try clear hb2); (try clear hk); (try clear hi)))
  go_ret
  exact ⟨by first | rfl | (simp [errW_none, errW_some] <;> rfl) | (simp [*, errW_none, errW_some] <;> rfl), by repeat (first | (with_reducible first | exact HB.out | apply below_alloc | apply pw_below_drewN | apply below_drew1) | exact HB.out)⟩

/-! ### table_Leads: function 24 -/
def table_Leads.f (a0_0 : Int) (a0_1 : Int) (a0_2 : Int) (a0_3 : Int) : Option (List Int) := if a0_1 = 90 then ((table_is.f a0_1 (⟨#[66, 68, 69]⟩ : ByteArray)).bind fun t103 => (if t103 = true then (if ([] : List Int).length < 17592186044416 then (some (([] : List Int) ++ [a0_3])) else (none)) else (some ([] : List Int)))) else (if ([] : List Int).length < 17592186044416 then ((some (([] : List Int) ++ [a0_2] : List Int)).bind fun y107 => ((table_is.f a0_1 (⟨#[66, 68, 69]⟩ : ByteArray)).bind fun t110 => (if t110 = true then (if y107.length < 17592186044416 then (some (y107 ++ [a0_3])) else (none)) else (some y107)))) else (none))
set_option maxHeartbeats 8000000 in
set_option maxRecDepth 100000 in
theorem table_Leads.calls (a0_0 : Int) (a0_1 : Int) (a0_2 : Int) (a0_3 : Int) (r : List Int) (w : World) (h : table_Leads.f a0_0 a0_1 a0_2 a0_3 = some r) :
    Calls Tryd.prog 24 #[.agg #[.int .i64 a0_0, .int .u8 a0_1, .int .i64 a0_2, .int .i64 a0_3]] w fun e w' => ∃ v0_ : Value, e = .returned (v0_) ∧ Kd.R (Kd.int .i64) 3 w' w.heap.size (fun _ => True) v0_ r ∧ Below w.heap.size w w' := by
  have hu43 := Tryd.underlying43
  have HB := Aside0.mk (Below.refl w.heap.size w)
  have H : (if a0_1 = 90 then ((table_is.f a0_1 (⟨#[66, 68, 69]⟩ : ByteArray)).bind fun t103 => (if t103 = true then (if ([] : List Int).length < 17592186044416 then (some (([] : List Int) ++ [a0_3])) else (none)) else (some ([] : List Int)))) else (if ([] : List Int).length < 17592186044416 then ((some (([] : List Int) ++ [a0_2] : List Int)).bind fun y107 => ((table_is.f a0_1 (⟨#[66, 68, 69]⟩ : ByteArray)).bind fun t110 => (if t110 = true then (if y107.length < 17592186044416 then (some (y107 ++ [a0_3])) else (none)) else (some y107)))) else (none))) = some r := h
  clear h
  by_cases c2 : a0_1 = 90
  ·rw [if_pos c2] at H
   have c2b0 : (a0_1 == 90) = true := beq_iff_eq.mpr c2
   have c2b1 : (a0_1 != 90) = false := bne_eq_false_iff_eq.mpr c2
   clear c2
   replace H := Option.bind_eq_some_iff.mp H
   obtain ⟨t103, A30, H⟩ := H
   replace H : (if t103 = true then (if ([] : List Int).length < 17592186044416 then (some (([] : List Int) ++ [a0_3])) else (none)) else (some ([] : List Int))) = some r := H
   have A3 := Aside0.mk A30
   clear A30
   by_cases c4 : t103 = true
   ·subst c4
    have H1 : (if ([] : List Int).length < 17592186044416 then (some (([] : List Int) ++ [a0_3])) else (none)) = some r := by rw [if_pos rfl] at H; exact H
    clear H
    have H := H1
    clear H1
    by_cases c5 : ([] : List Int).length < 17592186044416
    ·rw [if_pos c5] at H
     have LMc5 := Aside0.mk c5
     clear c5
     obtain ⟨y104, hy104⟩ : ∃ y_ : List Int, y_ = (([] : List Int) ++ [a0_3]) := ⟨_, rfl⟩
     replace H : (some y104) = some r := by first | (rw [hy104]; with_reducible exact H) | (have H2_ := (Option.bind_some _ _).symm.trans H; rw [hy104]; with_reducible exact H2_) | (have H2_ := (Option.bind_some _ _).symm.trans H; with_reducible exact H2_) | with_reducible exact H | (rw [hy104]; exact H) | exact H
     have Ny104 := Aside0.mk hy104
     clear hy104
     obtain rfl := Option.some.inj H
     go_enter Tryd.func24, Tryd.ntmps24
     go_wp2_with (first | ((with_reducible refine gate_dst (N := 1) rfl ?_); refine box_event ?hg (N := 1) ?hd (cs := #[.int .i64 a0_0, .int .u8 a0_1, .int .i64 a0_2, .int .i64 a0_3]) (t := 43) ?hr ?_; (case hd => rfl); (case hg => rfl); (case hr => first | (go_simp; done) | (go_simp; rfl)); intro gb102 hg w6 hbox hb; have n0_ := Aside0.mk (below_step (by repeat (first | (with_reducible first | exact HB.out | apply below_alloc | apply pw_below_drewN | apply below_drew1) | exact HB.out)) hb); have n1_ := Aside0.mk (hbox); have n2_ := Aside0.mk ((by rw [hg]; exact (below_size (by repeat (first | (with_reducible first | exact HB.out | apply below_alloc | apply pw_below_drewN | apply below_drew1) | exact HB.out))) : w.heap.size ≤ gb102)); have n3_ := Aside0.mk ((by rw [hg]; exact (below_size (by repeat (first | (with_reducible first | exact HB.out | apply below_alloc | apply pw_below_drewN | apply below_drew1) | exact HB.out))) : w.heap.size ≤ gb102)); clear HB; have HB := n0_; have BK102 := n1_; have GW102 := n2_; have GE102 := n3_; clear n0_ n1_ n2_ n3_; clear hb hbox hg; have hcz7_0 : w6.cell? ⟨gb102, 0, none⟩ = some (.int .i64 a0_0) := (blk_cell BK102.out 0).trans rfl; have hcz7_1 : w6.cell? ⟨gb102, 1, none⟩ = some (.int .u8 a0_1) := (blk_cell BK102.out 1).trans rfl; have hcz7_2 : w6.cell? ⟨gb102, 2, none⟩ = some (.int .i64 a0_2) := (blk_cell BK102.out 2).trans rfl; have hcz7_3 : w6.cell? ⟨gb102, 3, none⟩ = some (.int .i64 a0_3) := (blk_cell BK102.out 3).trans rfl; have hfz7_0 := blk_frozen BK102.out 0; have hfz7_1 := blk_frozen BK102.out 1; have hfz7_2 := blk_frozen BK102.out 2; have hfz7_3 := blk_frozen BK102.out 3) | ((with_reducible refine gate_callee (f := 36) rfl ?_); refine goesL_ (some 14) rfl rfl Tryd.func36 (by kernel_rfl) rfl #[.int .u8 a0_1, .string (⟨#[66, 68, 69]⟩ : ByteArray)] rfl (by (try simp only [List.map_toArray, List.map_cons, List.map_nil]); first | done | rfl | (simp only [List.length_drop, List.length_take]; rfl)) ?_; (with_reducible refine (table_is.calls a0_1 (⟨#[66, 68, 69]⟩ : ByteArray) true _ A3.out).mono ?_); rintro e w8 ⟨rfl, hb⟩; refine ⟨_, rfl, ?_⟩; have n0_ := Aside0.mk (blk_below (g := gb102) (o := .cells #[.int .i64 a0_0, .int .u8 a0_1, .int .i64 a0_2, .int .i64 a0_3] 43 (0, 0)) (by (with_reducible repeat (first | refine blk_drewN ?_ _ | refine blk_drew ?_ | refine blk_alloc ?_ _)); exact BK102.out) hb); have n1_ := Aside0.mk (below_step (by repeat (first | (with_reducible first | exact HB.out | apply below_alloc | apply pw_below_drewN | apply below_drew1 | refine below_set ?_ GE102.out) | exact HB.out)) hb); clear BK102; clear HB; have BK102 := n0_; have HB := n1_; clear n0_ n1_; (try clear hb); (try clear hb2); (try clear hk); (try clear hi); have hcz9_0 : w8.cell? ⟨gb102, 0, none⟩ = some (.int .i64 a0_0) := (blk_cell BK102.out 0).trans rfl; have hcz9_1 : w8.cell? ⟨gb102, 1, none⟩ = some (.int .u8 a0_1) := (blk_cell BK102.out 1).trans rfl; have hcz9_2 : w8.cell? ⟨gb102, 2, none⟩ = some (.int .i64 a0_2) := (blk_cell BK102.out 2).trans rfl; have hcz9_3 : w8.cell? ⟨gb102, 3, none⟩ = some (.int .i64 a0_3) := (blk_cell BK102.out 3).trans rfl; have hfz9_0 := blk_frozen BK102.out 0; have hfz9_1 := blk_frozen BK102.out 1; have hfz9_2 := blk_frozen BK102.out 2; have hfz9_3 := blk_frozen BK102.out 3) | ((with_reducible refine gate_builtin (b := .append) (xs := #[.tmp 15, .tmp 18]) rfl ?_); at_builtin; refine Kd.R_append (Kd.int .i64) (w0 := w) w.heap.size rfl (.tmp 15) (.tmp 18) 65 3 (.int .i64 0) 8 rfl Tryd.underlying65 info3 rfl (by decide) (by omega) (.slice none 0 0) ([] : List Int) a0_3 [.int .i64 a0_3] (fun _ => True) (fun _ => False) rfl rfl ?aP (fun _ hk => hk.elim) ?aF ?aO ?aB ?aS ?aL ?_; (case aP => exact rfl); (case aB => exact (by repeat (first | (with_reducible first | exact HB.out | apply below_alloc | apply pw_below_drewN | apply below_drew1 | refine below_set ?_ GE102.out) | exact HB.out))); (case aF => exact (fun _ _ => trivial)); (case aO => exact ((Kd.R_nil _ _ _ _ (fun _ => True)))); (case aS => exact (below_size (by repeat (first | (with_reducible first | exact HB.out | apply below_alloc | apply pw_below_drewN | apply below_drew1 | refine below_set ?_ GE102.out) | exact HB.out)))); (case aL => have := LMc5.out; omega); intro v105 w10 ho hb hg hat; (try simp only [Int.reduceToNat] at ho); rw [← Ny104.out] at ho; have n0_ := Aside0.mk (blk_grown (g := gb102) (o := .cells #[.int .i64 a0_0, .int .u8 a0_1, .int .i64 a0_2, .int .i64 a0_3] 43 (0, 0)) (by (with_reducible repeat (first | refine blk_drewN ?_ _ | refine blk_drew ?_ | refine blk_alloc ?_ _)); exact BK102.out) hg (by simp [Value.ownBlock])); have n1_ := Aside0.mk (hb); have n2_ := Aside0.mk (ho); clear BK102; clear HB; have BK102 := n0_; have HB := n1_; have HO106 := n2_; clear n0_ n1_ n2_; clear ho hb hg hat))
     go_ret
     exact ⟨_, by first | rfl | (simp [errW_none, errW_some] <;> rfl) | (simp [*, errW_none, errW_some] <;> rfl), by (with_reducible repeat (first | apply Kd.R_alloc | apply Kd.R_drewN | apply Kd.R_drew)); exact HO106.out, by repeat (first | (with_reducible first | exact HB.out | apply below_alloc | apply pw_below_drewN | apply below_drew1 | refine below_set ?_ GE102.out) | exact HB.out)⟩
    ·rw [if_neg c5] at H
     exact absurd H (by simp)
   ·replace c4 := Bool.eq_false_iff.mpr c4
    subst c4
    have H1 : (some ([] : List Int)) = some r := by rw [if_neg (show ¬ (false = true) by decide)] at H; exact H
    clear H
    have H := H1
    clear H1
    obtain rfl := Option.some.inj H
    go_enter Tryd.func24, Tryd.ntmps24
    go_wp2_with (first | ((with_reducible refine gate_dst (N := 1) rfl ?_); refine box_event ?hg (N := 1) ?hd (cs := #[.int .i64 a0_0, .int .u8 a0_1, .int .i64 a0_2, .int .i64 a0_3]) (t := 43) ?hr ?_; (case hd => rfl); (case hg => rfl); (case hr => first | (go_simp; done) | (go_simp; rfl)); intro gb102 hg w11 hbox hb; have n0_ := Aside0.mk (below_step (by repeat (first | (with_reducible first | exact HB.out | apply below_alloc | apply pw_below_drewN | apply below_drew1) | exact HB.out)) hb); have n1_ := Aside0.mk (hbox); have n2_ := Aside0.mk ((by rw [hg]; exact (below_size (by repeat (first | (with_reducible first | exact HB.out | apply below_alloc | apply pw_below_drewN | apply below_drew1) | exact HB.out))) : w.heap.size ≤ gb102)); have n3_ := Aside0.mk ((by rw [hg]; exact (below_size (by repeat (first | (with_reducible first | exact HB.out | apply below_alloc | apply pw_below_drewN | apply below_drew1) | exact HB.out))) : w.heap.size ≤ gb102)); clear HB; have HB := n0_; have BK102 := n1_; have GW102 := n2_; have GE102 := n3_; clear n0_ n1_ n2_ n3_; clear hb hbox hg; have hcz12_0 : w11.cell? ⟨gb102, 0, none⟩ = some (.int .i64 a0_0) := (blk_cell BK102.out 0).trans rfl; have hcz12_1 : w11.cell? ⟨gb102, 1, none⟩ = some (.int .u8 a0_1) := (blk_cell BK102.out 1).trans rfl; have hcz12_2 : w11.cell? ⟨gb102, 2, none⟩ = some (.int .i64 a0_2) := (blk_cell BK102.out 2).trans rfl; have hcz12_3 : w11.cell? ⟨gb102, 3, none⟩ = some (.int .i64 a0_3) := (blk_cell BK102.out 3).trans rfl; have hfz12_0 := blk_frozen BK102.out 0; have hfz12_1 := blk_frozen BK102.out 1; have hfz12_2 := blk_frozen BK102.out 2; have hfz12_3 := blk_frozen BK102.out 3) | ((with_reducible refine gate_callee (f := 36) rfl ?_); refine goesL_ (some 14) rfl rfl Tryd.func36 (by kernel_rfl) rfl #[.int .u8 a0_1, .string (⟨#[66, 68, 69]⟩ : ByteArray)] rfl (by (try simp only [List.map_toArray, List.map_cons, List.map_nil]); first | done | rfl | (simp only [List.length_drop, List.length_take]; rfl)) ?_; (with_reducible refine (table_is.calls a0_1 (⟨#[66, 68, 69]⟩ : ByteArray) false _ A3.out).mono ?_); rintro e w13 ⟨rfl, hb⟩; refine ⟨_, rfl, ?_⟩; have n0_ := Aside0.mk (blk_below (g := gb102) (o := .cells #[.int .i64 a0_0, .int .u8 a0_1, .int .i64 a0_2, .int .i64 a0_3] 43 (0, 0)) (by (with_reducible repeat (first | refine blk_drewN ?_ _ | refine blk_drew ?_ | refine blk_alloc ?_ _)); exact BK102.out) hb); have n1_ := Aside0.mk (below_step (by repeat (first | (with_reducible first | exact HB.out | apply below_alloc | apply pw_below_drewN | apply below_drew1 | refine below_set ?_ GE102.out) | exact HB.out)) hb); clear BK102; clear HB; have BK102 := n0_; have HB := n1_; clear n0_ n1_; (try clear hb); (try clear hb2); (try clear hk); (try clear hi)))
    go_ret
    exact ⟨_, by first | rfl | (simp [errW_none, errW_some] <;> rfl) | (simp [*, errW_none, errW_some] <;> rfl), by first | exact Kd.R_nil _ _ _ _ _ | exact Kd.N_nil _ _ _ _ _ | exact Kd.V_nil _ _ _ _ _ | exact Kd.Q_nil _ _ _ _ _ | exact Kd.S_nil _ _ _ _ _, by repeat (first | (with_reducible first | exact HB.out | apply below_alloc | apply pw_below_drewN | apply below_drew1 | refine below_set ?_ GE102.out) | exact HB.out)⟩
  ·rw [if_neg c2] at H
   have c2b0 : (a0_1 == 90) = false := beq_eq_false_iff_ne.mpr c2
   have c2b1 : (a0_1 != 90) = true := bne_iff_ne.mpr c2
   by_cases c14 : ([] : List Int).length < 17592186044416
   ·rw [if_pos c14] at H
    have LMc14 := Aside0.mk c14
    clear c14
    obtain ⟨y107, hy107⟩ : ∃ y_ : List Int, y_ = (([] : List Int) ++ [a0_2]) := ⟨_, rfl⟩
    replace H : ((table_is.f a0_1 (⟨#[66, 68, 69]⟩ : ByteArray)).bind fun t110 => (if t110 = true then (if y107.length < 17592186044416 then (some (y107 ++ [a0_3])) else (none)) else (some y107))) = some r := by first | (rw [hy107]; with_reducible exact H) | (have H2_ := (Option.bind_some _ _).symm.trans H; rw [hy107]; with_reducible exact H2_) | (have H2_ := (Option.bind_some _ _).symm.trans H; with_reducible exact H2_) | with_reducible exact H | (rw [hy107]; exact H) | exact H
    have Ny107 := Aside0.mk hy107
    clear hy107
    replace H := Option.bind_eq_some_iff.mp H
    obtain ⟨t110, A150, H⟩ := H
    replace H : (if t110 = true then (if y107.length < 17592186044416 then (some (y107 ++ [a0_3])) else (none)) else (some y107)) = some r := H
    have A15 := Aside0.mk A150
    clear A150
    by_cases c16 : t110 = true
    ·subst c16
     have H1 : (if y107.length < 17592186044416 then (some (y107 ++ [a0_3])) else (none)) = some r := by rw [if_pos rfl] at H; exact H
     clear H
     have H := H1
     clear H1
     by_cases c17 : y107.length < 17592186044416
     ·rw [if_pos c17] at H
      have LMc17 := Aside0.mk c17
      clear c17
      obtain ⟨y111, hy111⟩ : ∃ y_ : List Int, y_ = (y107 ++ [a0_3]) := ⟨_, rfl⟩
      replace H : (some y111) = some r := by first | (rw [hy111]; with_reducible exact H) | (have H2_ := (Option.bind_some _ _).symm.trans H; rw [hy111]; with_reducible exact H2_) | (have H2_ := (Option.bind_some _ _).symm.trans H; with_reducible exact H2_) | with_reducible exact H | (rw [hy111]; exact H) | exact H
      have Ny111 := Aside0.mk hy111
      clear hy111
      obtain rfl := Option.some.inj H
      go_enter Tryd.func24, Tryd.ntmps24
      go_wp2_with (first | ((with_reducible refine gate_dst (N := 1) rfl ?_); refine box_event ?hg (N := 1) ?hd (cs := #[.int .i64 a0_0, .int .u8 a0_1, .int .i64 a0_2, .int .i64 a0_3]) (t := 43) ?hr ?_; (case hd => rfl); (case hg => rfl); (case hr => first | (go_simp; done) | (go_simp; rfl)); intro gb102 hg w18 hbox hb; have n0_ := Aside0.mk (below_step (by repeat (first | (with_reducible first | exact HB.out | apply below_alloc | apply pw_below_drewN | apply below_drew1) | exact HB.out)) hb); have n1_ := Aside0.mk (hbox); have n2_ := Aside0.mk ((by rw [hg]; exact (below_size (by repeat (first | (with_reducible first | exact HB.out | apply below_alloc | apply pw_below_drewN | apply below_drew1) | exact HB.out))) : w.heap.size ≤ gb102)); have n3_ := Aside0.mk ((by rw [hg]; exact (below_size (by repeat (first | (with_reducible first | exact HB.out | apply below_alloc | apply pw_below_drewN | apply below_drew1) | exact HB.out))) : w.heap.size ≤ gb102)); clear HB; have HB := n0_; have BK102 := n1_; have GW102 := n2_; have GE102 := n3_; clear n0_ n1_ n2_ n3_; clear hb hbox hg; have hcz19_0 : w18.cell? ⟨gb102, 0, none⟩ = some (.int .i64 a0_0) := (blk_cell BK102.out 0).trans rfl; have hcz19_1 : w18.cell? ⟨gb102, 1, none⟩ = some (.int .u8 a0_1) := (blk_cell BK102.out 1).trans rfl; have hcz19_2 : w18.cell? ⟨gb102, 2, none⟩ = some (.int .i64 a0_2) := (blk_cell BK102.out 2).trans rfl; have hcz19_3 : w18.cell? ⟨gb102, 3, none⟩ = some (.int .i64 a0_3) := (blk_cell BK102.out 3).trans rfl; have hfz19_0 := blk_frozen BK102.out 0; have hfz19_1 := blk_frozen BK102.out 1; have hfz19_2 := blk_frozen BK102.out 2; have hfz19_3 := blk_frozen BK102.out 3) | ((with_reducible refine gate_builtin (b := .append) (xs := #[.tmp 7, .tmp 10]) rfl ?_); at_builtin; refine Kd.R_append (Kd.int .i64) (w0 := w) w.heap.size rfl (.tmp 7) (.tmp 10) 65 3 (.int .i64 0) 8 rfl Tryd.underlying65 info3 rfl (by decide) (by omega) (.slice none 0 0) ([] : List Int) a0_2 [.int .i64 a0_2] (fun _ => True) (fun _ => False) rfl rfl ?aP (fun _ hk => hk.elim) ?aF ?aO ?aB ?aS ?aL ?_; (case aP => exact rfl); (case aB => exact (by repeat (first | (with_reducible first | exact HB.out | apply below_alloc | apply pw_below_drewN | apply below_drew1 | refine below_set ?_ GE102.out) | exact HB.out))); (case aF => exact (fun _ _ => trivial)); (case aO => exact ((Kd.R_nil _ _ _ _ (fun _ => True)))); (case aS => exact (below_size (by repeat (first | (with_reducible first | exact HB.out | apply below_alloc | apply pw_below_drewN | apply below_drew1 | refine below_set ?_ GE102.out) | exact HB.out)))); (case aL => have := LMc14.out; omega); intro v108 w20 ho hb hg hat; (try simp only [Int.reduceToNat] at ho); rw [← Ny107.out] at ho; have n0_ := Aside0.mk (blk_grown (g := gb102) (o := .cells #[.int .i64 a0_0, .int .u8 a0_1, .int .i64 a0_2, .int .i64 a0_3] 43 (0, 0)) (by (with_reducible repeat (first | refine blk_drewN ?_ _ | refine blk_drew ?_ | refine blk_alloc ?_ _)); exact BK102.out) hg (by simp [Value.ownBlock])); have n1_ := Aside0.mk (hb); have n2_ := Aside0.mk (ho); clear BK102; clear HB; have BK102 := n0_; have HB := n1_; have HO109 := n2_; clear n0_ n1_ n2_; clear ho hb hg hat; have hcz21_0 : w20.cell? ⟨gb102, 0, none⟩ = some (.int .i64 a0_0) := (blk_cell BK102.out 0).trans rfl; have hcz21_1 : w20.cell? ⟨gb102, 1, none⟩ = some (.int .u8 a0_1) := (blk_cell BK102.out 1).trans rfl; have hcz21_2 : w20.cell? ⟨gb102, 2, none⟩ = some (.int .i64 a0_2) := (blk_cell BK102.out 2).trans rfl; have hcz21_3 : w20.cell? ⟨gb102, 3, none⟩ = some (.int .i64 a0_3) := (blk_cell BK102.out 3).trans rfl; have hfz21_0 := blk_frozen BK102.out 0; have hfz21_1 := blk_frozen BK102.out 1; have hfz21_2 := blk_frozen BK102.out 2; have hfz21_3 := blk_frozen BK102.out 3) | ((with_reducible refine gate_callee (f := 36) rfl ?_); refine goesL_ (some 14) rfl rfl Tryd.func36 (by kernel_rfl) rfl #[.int .u8 a0_1, .string (⟨#[66, 68, 69]⟩ : ByteArray)] rfl (by (try simp only [List.map_toArray, List.map_cons, List.map_nil]); first | done | rfl | (simp only [List.length_drop, List.length_take]; rfl)) ?_; (with_reducible refine (table_is.calls a0_1 (⟨#[66, 68, 69]⟩ : ByteArray) true _ A15.out).mono ?_); rintro e w22 ⟨rfl, hb⟩; refine ⟨_, rfl, ?_⟩; have n0_ := Aside0.mk (Kd.R_below (by (with_reducible repeat (first | apply Kd.R_alloc | apply Kd.R_drewN | apply Kd.R_drew)); exact HO109.out) hb); have n1_ := Aside0.mk (blk_below (g := gb102) (o := .cells #[.int .i64 a0_0, .int .u8 a0_1, .int .i64 a0_2, .int .i64 a0_3] 43 (0, 0)) (by (with_reducible repeat (first | refine blk_drewN ?_ _ | refine blk_drew ?_ | refine blk_alloc ?_ _)); exact BK102.out) hb); have n2_ := Aside0.mk (below_step (by repeat (first | (with_reducible first | exact HB.out | apply below_alloc | apply pw_below_drewN | apply below_drew1 | refine below_set ?_ GE102.out) | exact HB.out)) hb); clear HO109; clear BK102; clear HB; have HO109 := n0_; have BK102 := n1_; have HB := n2_; clear n0_ n1_ n2_; (try clear hb); (try clear hb2); (try clear hk); (try clear hi); have hcz23_0 : w22.cell? ⟨gb102, 0, none⟩ = some (.int .i64 a0_0) := (blk_cell BK102.out 0).trans rfl; have hcz23_1 : w22.cell? ⟨gb102, 1, none⟩ = some (.int .u8 a0_1) := (blk_cell BK102.out 1).trans rfl; have hcz23_2 : w22.cell? ⟨gb102, 2, none⟩ = some (.int .i64 a0_2) := (blk_cell BK102.out 2).trans rfl; have hcz23_3 : w22.cell? ⟨gb102, 3, none⟩ = some (.int .i64 a0_3) := (blk_cell BK102.out 3).trans rfl; have hfz23_0 := blk_frozen BK102.out 0; have hfz23_1 := blk_frozen BK102.out 1; have hfz23_2 := blk_frozen BK102.out 2; have hfz23_3 := blk_frozen BK102.out 3) | ((with_reducible refine gate_builtin (b := .append) (xs := #[.tmp 15, .tmp 18]) rfl ?_); at_builtin; refine Kd.R_append (Kd.int .i64) (w0 := w) w.heap.size rfl (.tmp 15) (.tmp 18) 65 3 (.int .i64 0) 8 rfl Tryd.underlying65 info3 rfl (by decide) (by omega) v108 y107 a0_3 [.int .i64 a0_3] (fun _ => True) (fun _ => False) rfl rfl ?aP (fun _ hk => hk.elim) ?aF ?aO ?aB ?aS ?aL ?_; (case aP => exact rfl); (case aB => exact (by repeat (first | (with_reducible first | exact HB.out | apply below_alloc | apply pw_below_drewN | apply below_drew1 | refine below_set ?_ GE102.out) | exact HB.out))); (case aF => exact (fun _ _ => trivial)); (case aO => exact (by (with_reducible repeat (first | apply Kd.R_alloc | apply Kd.R_drewN | apply Kd.R_drew)); exact HO109.out)); (case aS => exact (below_size (by repeat (first | (with_reducible first | exact HB.out | apply below_alloc | apply pw_below_drewN | apply below_drew1 | refine below_set ?_ GE102.out) | exact HB.out)))); (case aL => have := LMc17.out; omega); intro v112 w24 ho hb hg hat; (try simp only [Int.reduceToNat] at ho); rw [← Ny111.out] at ho; have n0_ := Aside0.mk (blk_grown (g := gb102) (o := .cells #[.int .i64 a0_0, .int .u8 a0_1, .int .i64 a0_2, .int .i64 a0_3] 43 (0, 0)) (by (with_reducible repeat (first | refine blk_drewN ?_ _ | refine blk_drew ?_ | refine blk_alloc ?_ _)); exact BK102.out) hg (Kd.R_ne HO109.out BK102.out (by decide))); have n1_ := Aside0.mk (hb); have n2_ := Aside0.mk (ho); clear BK102; clear HB; clear HO109; have BK102 := n0_; have HB := n1_; have HO113 := n2_; clear n0_ n1_ n2_; clear ho hb hg hat))
      go_ret
      exact ⟨_, by first | rfl | (simp [errW_none, errW_some] <;> rfl) | (simp [*, errW_none, errW_some] <;> rfl), by (with_reducible repeat (first | apply Kd.R_alloc | apply Kd.R_drewN | apply Kd.R_drew)); exact HO113.out, by repeat (first | (with_reducible first | exact HB.out | apply below_alloc | apply pw_below_drewN | apply below_drew1 | refine below_set ?_ GE102.out) | exact HB.out)⟩
     ·rw [if_neg c17] at H
      exact absurd H (by simp)
    ·replace c16 := Bool.eq_false_iff.mpr c16
     subst c16
     have H1 : (some y107) = some r := by rw [if_neg (show ¬ (false = true) by decide)] at H; exact H
     clear H
     have H := H1
     clear H1
     obtain rfl := Option.some.inj H
     go_enter Tryd.func24, Tryd.ntmps24
     go_wp2_with (first | ((with_reducible refine gate_dst (N := 1) rfl ?_); refine box_event ?hg (N := 1) ?hd (cs := #[.int .i64 a0_0, .int .u8 a0_1, .int .i64 a0_2, .int .i64 a0_3]) (t := 43) ?hr ?_; (case hd => rfl); (case hg => rfl); (case hr => first | (go_simp; done) | (go_simp; rfl)); intro gb102 hg w25 hbox hb; have n0_ := Aside0.mk (below_step (by repeat (first | (with_reducible first | exact HB.out | apply below_alloc | apply pw_below_drewN | apply below_drew1) | exact HB.out)) hb); have n1_ := Aside0.mk (hbox); have n2_ := Aside0.mk ((by rw [hg]; exact (below_size (by repeat (first | (with_reducible first | exact HB.out | apply below_alloc | apply pw_below_drewN | apply below_drew1) | exact HB.out))) : w.heap.size ≤ gb102)); have n3_ := Aside0.mk ((by rw [hg]; exact (below_size (by repeat (first | (with_reducible first | exact HB.out | apply below_alloc | apply pw_below_drewN | apply below_drew1) | exact HB.out))) : w.heap.size ≤ gb102)); clear HB; have HB := n0_; have BK102 := n1_; have GW102 := n2_; have GE102 := n3_; clear n0_ n1_ n2_ n3_; clear hb hbox hg; have hcz26_0 : w25.cell? ⟨gb102, 0, none⟩ = some (.int .i64 a0_0) := (blk_cell BK102.out 0).trans rfl; have hcz26_1 : w25.cell? ⟨gb102, 1, none⟩ = some (.int .u8 a0_1) := (blk_cell BK102.out 1).trans rfl; have hcz26_2 : w25.cell? ⟨gb102, 2, none⟩ = some (.int .i64 a0_2) := (blk_cell BK102.out 2).trans rfl; have hcz26_3 : w25.cell? ⟨gb102, 3, none⟩ = some (.int .i64 a0_3) := (blk_cell BK102.out 3).trans rfl; have hfz26_0 := blk_frozen BK102.out 0; have hfz26_1 := blk_frozen BK102.out 1; have hfz26_2 := blk_frozen BK102.out 2; have hfz26_3 := blk_frozen BK102.out 3) | ((with_reducible refine gate_builtin (b := .append) (xs := #[.tmp 7, .tmp 10]) rfl ?_); at_builtin; refine Kd.R_append (Kd.int .i64) (w0 := w) w.heap.size rfl (.tmp 7) (.tmp 10) 65 3 (.int .i64 0) 8 rfl Tryd.underlying65 info3 rfl (by decide) (by omega) (.slice none 0 0) ([] : List Int) a0_2 [.int .i64 a0_2] (fun _ => True) (fun _ => False) rfl rfl ?aP (fun _ hk => hk.elim) ?aF ?aO ?aB ?aS ?aL ?_; (case aP => exact rfl); (case aB => exact (by repeat (first | (with_reducible first | exact HB.out | apply below_alloc | apply pw_below_drewN | apply below_drew1 | refine below_set ?_ GE102.out) | exact HB.out))); (case aF => exact (fun _ _ => trivial)); (case aO => exact ((Kd.R_nil _ _ _ _ (fun _ => True)))); (case aS => exact (below_size (by repeat (first | (with_reducible first | exact HB.out | apply below_alloc | apply pw_below_drewN | apply below_drew1 | refine below_set ?_ GE102.out) | exact HB.out)))); (case aL => have := LMc14.out; omega); intro v108 w27 ho hb hg hat; (try simp only [Int.reduceToNat] at ho); rw [← Ny107.out] at ho; have n0_ := Aside0.mk (blk_grown (g := gb102) (o := .cells #[.int .i64 a0_0, .int .u8 a0_1, .int .i64 a0_2, .int .i64 a0_3] 43 (0, 0)) (by (with_reducible repeat (first | refine blk_drewN ?_ _ | refine blk_drew ?_ | refine blk_alloc ?_ _)); exact BK102.out) hg (by simp [Value.ownBlock])); have n1_ := Aside0.mk (hb); have n2_ := Aside0.mk (ho); clear BK102; clear HB; have BK102 := n0_; have HB := n1_; have HO109 := n2_; clear n0_ n1_ n2_; clear ho hb hg hat; have hcz28_0 : w27.cell? ⟨gb102, 0, none⟩ = some (.int .i64 a0_0) := (blk_cell BK102.out 0).trans rfl; have hcz28_1 : w27.cell? ⟨gb102, 1, none⟩ = some (.int .u8 a0_1) := (blk_cell BK102.out 1).trans rfl; have hcz28_2 : w27.cell? ⟨gb102, 2, none⟩ = some (.int .i64 a0_2) := (blk_cell BK102.out 2).trans rfl; have hcz28_3 : w27.cell? ⟨gb102, 3, none⟩ = some (.int .i64 a0_3) := (blk_cell BK102.out 3).trans rfl; have hfz28_0 := blk_frozen BK102.out 0; have hfz28_1 := blk_frozen BK102.out 1; have hfz28_2 := blk_frozen BK102.out 2; have hfz28_3 := blk_frozen BK102.out 3) | ((with_reducible refine gate_callee (f := 36) rfl ?_); refine goesL_ (some 14) rfl rfl Tryd.func36 (by kernel_rfl) rfl #[.int .u8 a0_1, .string (⟨#[66, 68, 69]⟩ : ByteArray)] rfl (by (try simp only [List.map_toArray, List.map_cons, List.map_nil]); first | done | rfl | (simp only [List.length_drop, List.length_take]; rfl)) ?_; (with_reducible refine (table_is.calls a0_1 (⟨#[66, 68, 69]⟩ : ByteArray) false _ A15.out).mono ?_); rintro e w29 ⟨rfl, hb⟩; refine ⟨_, rfl, ?_⟩; have n0_ := Aside0.mk (Kd.R_below (by (with_reducible repeat (first | apply Kd.R_alloc | apply Kd.R_drewN | apply Kd.R_drew)); exact HO109.out) hb); have n1_ := Aside0.mk (blk_below (g := gb102) (o := .cells #[.int .i64 a0_0, .int .u8 a0_1, .int .i64 a0_2, .int .i64 a0_3] 43 (0, 0)) (by (with_reducible repeat (first | refine blk_drewN ?_ _ | refine blk_drew ?_ | refine blk_alloc ?_ _)); exact BK102.out) hb); have n2_ := Aside0.mk (below_step (by repeat (first | (with_reducible first | exact HB.out | apply below_alloc | apply pw_below_drewN | apply below_drew1 | refine below_set ?_ GE102.out) | exact HB.out)) hb); clear HO109; clear BK102; clear HB; have HO109 := n0_; have BK102 := n1_; have HB := n2_; clear n0_ n1_ n2_; (try clear hb); (try clear hb2); (try clear hk); (try clear hi)))
     go_ret
     exact ⟨_, by first | rfl | (simp [errW_none, errW_some] <;> rfl) | (simp [*, errW_none, errW_some] <;> rfl), by (with_reducible repeat (first | apply Kd.R_alloc | apply Kd.R_drewN | apply Kd.R_drew)); exact HO109.out, by repeat (first | (with_reducible first | exact HB.out | apply below_alloc | apply pw_below_drewN | apply below_drew1 | refine below_set ?_ GE102.out) | exact HB.out)⟩
   ·rw [if_neg c14] at H
    exact absurd H (by simp)

-- by hand: function 12 (table_Check)

-- by hand: function 26 (strings_Cut)

/-! ### table_right: function 32 -/
def table_right.l0 : Nat → List Int → Int → Int → Int → Int → Int → Int → Option (Bool)
  | 0, _, _, _, _, _, _, _ => none
  | k + 1, x11, x12, x13, x115000, x115001, x115002, x115003 => if x13 < x12 then (if 0 ≤ x13 then (if x13 < (x11.length : Int) then (if (rd x11 x13) < 0 then (some false) else (if (rd x11 x13) > 999 then (some false) else (table_right.l0 k x11 x12 (wrap64 (x13 + 1)) x115000 x115001 x115002 x115003))) else (none)) else (none)) else ((table_is.f x115001 (⟨#[65, 66, 68, 69, 73, 90]⟩ : ByteArray)).bind fun t119 => (some t119))
def table_right.f (k : Nat) (a0_0 : Int) (a0_1 : Int) (a0_2 : Int) (a0_3 : Int) : Option (Bool) := (some (([a0_0, a0_2, a0_3] : List Int) : List Int)).bind fun y115 => (table_right.l0 k y115 (y115.length : Int) 0 a0_0 a0_1 a0_2 a0_3)
theorem table_right.mono_l : ∀ k, (∀ y0 y1 y2 y3 y4 y5 y6, LeO (table_right.l0 k y0 y1 y2 y3 y4 y5 y6) (table_right.l0 (k + 1) y0 y1 y2 y3 y4 y5 y6))
  | 0 => fun _ _ _ _ _ _ _ r h => by simp [table_right.l0] at h
  | k + 1 => by
    have ih0 := table_right.mono_l k
    · intro y0 y1 y2 y3 y4 y5 y6
      unfold table_right.l0
      repeat' first
      | (with_reducible exact ih0 _ _ _ _ _ _ _)
      | (with_reducible exact LeO.refl _)
      | (with_reducible exact LeO.none _)
      | (with_reducible refine LeO.ite ?_ ?_)
      | (with_reducible refine LeO.bind ?_ (fun _ => ?_))
      | exact ih0 _ _ _ _ _ _ _
      | exact LeO.none _
      | refine LeO.ite ?_ ?_
      | refine LeO.bind ?_ (fun _ => ?_)
theorem table_right.mono : ∀ a0 a1 a2 a3 k, LeO (table_right.f k a0 a1 a2 a3) (table_right.f (k + 1) a0 a1 a2 a3) := by
  intro a0 a1 a2 a3 k
  have ih0 := table_right.mono_l k
  unfold table_right.f
  repeat' first
      | (with_reducible exact ih0 _ _ _ _ _ _ _)
      | (with_reducible exact LeO.refl _)
      | (with_reducible exact LeO.none _)
      | (with_reducible refine LeO.ite ?_ ?_)
      | (with_reducible refine LeO.bind ?_ (fun _ => ?_))
      | exact ih0 _ _ _ _ _ _ _
      | exact LeO.none _
      | refine LeO.ite ?_ ?_
      | refine LeO.bind ?_ (fun _ => ?_)
set_option maxHeartbeats 8000000 in
set_option maxRecDepth 100000 in
theorem table_right.calls (k : Nat) (a0_0 : Int) (a0_1 : Int) (a0_2 : Int) (a0_3 : Int) (r : Bool) (w : World) (h : table_right.f k a0_0 a0_1 a0_2 a0_3 = some r) :
    Calls Tryd.prog 32 #[.agg #[.int .i64 a0_0, .int .u8 a0_1, .int .i64 a0_2, .int .i64 a0_3]] w fun e w' => e = .returned (.bool r) ∧ Below w.heap.size w w' := by
  have hu43 := Tryd.underlying43
  have HB := Aside0.mk (Below.refl w.heap.size w)
  have H : ((some (([a0_0, a0_2, a0_3] : List Int) : List Int)).bind fun y115 => (table_right.l0 k y115 (y115.length : Int) 0 a0_0 a0_1 a0_2 a0_3)) = some r := h
  clear h
  obtain ⟨y115, hy115⟩ : ∃ y_ : List Int, y_ = (([a0_0, a0_2, a0_3] : List Int)) := ⟨_, rfl⟩
  replace H : (table_right.l0 k y115 (y115.length : Int) 0 a0_0 a0_1 a0_2 a0_3) = some r := by first | (rw [hy115]; with_reducible exact H) | (have H2_ := (Option.bind_some _ _).symm.trans H; rw [hy115]; with_reducible exact H2_) | (have H2_ := (Option.bind_some _ _).symm.trans H; with_reducible exact H2_) | with_reducible exact H | (rw [hy115]; exact H) | exact H
  have Ny115 := Aside0.mk hy115
  clear hy115
  have H' := Aside0.mk H
  clear H
  go_enter Tryd.func32, Tryd.ntmps32
  go_wp2_with (first | ((with_reducible refine gate_dst (N := 1) rfl ?_); refine box_event ?hg (N := 1) ?hd (cs := #[.int .i64 a0_0, .int .u8 a0_1, .int .i64 a0_2, .int .i64 a0_3]) (t := 43) ?hr ?_; (case hd => rfl); (case hg => rfl); (case hr => first | (go_simp; done) | (go_simp; rfl)); intro gb114 hg w2 hbox hb; have n0_ := Aside0.mk (below_step (by repeat (first | (with_reducible first | exact HB.out | apply below_alloc | apply pw_below_drewN | apply below_drew1) | exact HB.out)) hb); have n1_ := Aside0.mk (hbox); have n2_ := Aside0.mk ((by rw [hg]; exact (below_size (by repeat (first | (with_reducible first | exact HB.out | apply below_alloc | apply pw_below_drewN | apply below_drew1) | exact HB.out))) : w.heap.size ≤ gb114)); have n3_ := Aside0.mk ((by rw [hg]; exact (below_size (by repeat (first | (with_reducible first | exact HB.out | apply below_alloc | apply pw_below_drewN | apply below_drew1) | exact HB.out))) : w.heap.size ≤ gb114)); clear HB; have HB := n0_; have BK114 := n1_; have GW114 := n2_; have GE114 := n3_; clear n0_ n1_ n2_ n3_; clear hb hbox hg; have hcz3_0 : w2.cell? ⟨gb114, 0, none⟩ = some (.int .i64 a0_0) := (blk_cell BK114.out 0).trans rfl; have hcz3_1 : w2.cell? ⟨gb114, 1, none⟩ = some (.int .u8 a0_1) := (blk_cell BK114.out 1).trans rfl; have hcz3_2 : w2.cell? ⟨gb114, 2, none⟩ = some (.int .i64 a0_2) := (blk_cell BK114.out 2).trans rfl; have hcz3_3 : w2.cell? ⟨gb114, 3, none⟩ = some (.int .i64 a0_3) := (blk_cell BK114.out 3).trans rfl; have hfz3_0 := blk_frozen BK114.out 0; have hfz3_1 := blk_frozen BK114.out 1; have hfz3_2 := blk_frozen BK114.out 2; have hfz3_3 := blk_frozen BK114.out 3) | ((with_reducible refine gate_dst (N := 11) rfl ?_); refine Kd.R_lit (Kd.int .i64) _ 3 ?hg (N := 11) ?hd (xs := ([a0_0, a0_2, a0_3] : List Int)) (inner := [.int .i64 a0_0, .int .i64 a0_2, .int .i64 a0_3]) (ok := fun _ => True) (okp := fun _ => True) ?hr ?hp (fun _ hk => hk) trivial (Below.refl _ _) (Nat.le_refl _) (by simp) ?_; (case hd => rfl); (case hg => rfl); (case hr => first | (go_simp; done) | (go_simp; rfl)); (case hp => exact (Reps.one (show Kd.M (Kd.int .i64) _ _ _ a0_0 [.int .i64 a0_0] from rfl) (Reps.one (show Kd.M (Kd.int .i64) _ _ _ a0_2 [.int .i64 a0_2] from rfl) (Reps.one (show Kd.M (Kd.int .i64) _ _ _ a0_3 [.int .i64 a0_3] from rfl) (Reps.none _ _))))); intro v116 w4 ho5 hb hg_ hnew_; clear hg_ hnew_; (first | rw [← Ny115.out] at ho5 | (simp only [Int.reduceToNat] at ho5; rw [← Ny115.out] at ho5)); have n0_ := Aside0.mk (Kd.R_lower ho5 (below_size (by repeat (first | (with_reducible first | exact HB.out | apply below_alloc | apply pw_below_drewN | apply below_drew1 | refine below_set ?_ GE114.out) | exact HB.out)))); have n1_ := Aside0.mk (blk_below (g := gb114) (o := .cells #[.int .i64 a0_0, .int .u8 a0_1, .int .i64 a0_2, .int .i64 a0_3] 43 (0, 0)) (by (with_reducible repeat (first | refine blk_drewN ?_ _ | refine blk_drew ?_ | refine blk_alloc ?_ _)); exact BK114.out) hb); have n2_ := Aside0.mk (below_step (by repeat (first | (with_reducible first | exact HB.out | apply below_alloc | apply pw_below_drewN | apply below_drew1 | refine below_set ?_ GE114.out) | exact HB.out)) hb); clear BK114; clear HB; have HO117 := n0_; have BK114 := n1_; have HB := n2_; clear n0_ n1_ n2_; clear hb ho5; obtain ⟨Ao6, co6, eo6⟩ := Kd.R_slice HO117.out; subst eo6))
  go_loopg [13] k (fun kq v13 w' => ∃ (x13_1 : Int), v13 = .int .i64 x13_1 ∧ Aside0 (table_right.l0 kq y115 (y115.length : Int) x13_1 a0_0 a0_1 a0_2 a0_3 = some r) ∧ Aside0 (kq ≤ k) ∧ Aside0 (Kd.R (Kd.int .i64) 3 w' w.heap.size (fun _ => True) (.slice Ao6 y115.length co6) y115) ∧ Aside0 (w'.heap[gb114]? = some (.cells #[.int .i64 a0_0, .int .u8 a0_1, .int .i64 a0_2, .int .i64 a0_3] 43 (0, 0))) ∧ Aside0 (Below w.heap.size w w'))
  case atStart => exact ⟨(0), (by first | rfl | (simp; done) | (simp [*]; done) | (congr 1; unfold wrap64; omega)), H', ⟨Nat.le_refl _⟩, ⟨by (with_reducible repeat (first | apply Kd.R_alloc | apply Kd.R_drewN | apply Kd.R_drew)); exact HO117.out⟩, ⟨by (with_reducible repeat (first | refine blk_drewN ?_ _ | refine blk_drew ?_ | refine blk_alloc ?_ _)); exact BK114.out⟩, ⟨by repeat (first | (with_reducible first | exact HB.out | apply below_alloc | apply pw_below_drewN | apply below_drew1 | refine below_set ?_ GE114.out) | exact HB.out)⟩⟩
  case round =>
   clear H'
   try clear p2
   try clear c3
   try clear hcz3_0
   try clear hcz3_1
   try clear hcz3_2
   try clear hcz3_3
   try clear hfz3_0
   try clear hfz3_1
   try clear hfz3_2
   try clear hfz3_3
   obtain ⟨x13_1, rfl, HA, HK1, HO_11, BK114, HB⟩ := hrel
   cases gk with
   | zero => exact absurd HA.out (by simp [table_right.l0])
   | succ k1 =>
    have H := HA.out
    clear HA
    simp only [table_right.l0] at H
    by_cases c7 : x13_1 < (y115.length : Int)
    ·rw [if_pos c7] at H
     have c7b0 : decide (x13_1 < (y115.length : Int)) = true := decide_eq_true c7
     clear c7
     by_cases c8 : 0 ≤ x13_1
     ·rw [if_pos c8] at H
      have c8b0 : decide (0 ≤ x13_1) = true := decide_eq_true c8
      clear c8
      by_cases c9 : x13_1 < (y115.length : Int)
      ·rw [if_pos c9] at H
       have c9b0 : decide (x13_1 < (y115.length : Int)) = true := decide_eq_true c9
       clear c9
       by_cases c10 : (rd y115 x13_1) < 0
       ·rw [if_pos c10] at H
        have c10b0 : decide ((rd y115 x13_1) < 0) = true := decide_eq_true c10
        clear c10
        obtain rfl := Option.some.inj H
        have p118 : 0 ≤ (x13_1 : Int) := of_decide_eq_true (by first | (with_reducible assumption) | assumption)
        have q118 : x13_1 < (y115.length : Int) := of_decide_eq_true (by first | (with_reducible assumption) | assumption)
        obtain ⟨ad118, e118, hx118_0⟩ := Kd.at_int (Kd.R_reads' HO_11.out).2.2 x13_1 p118 q118
        cases e118
        replace p118 := eq_true p118
        replace q118 := eq_true q118
        go_wp2
        go_ret
        exact ⟨by first | rfl | (simp [errW_none, errW_some] <;> rfl) | (simp [*, errW_none, errW_some] <;> rfl), by repeat (first | (with_reducible first | exact HB.out | apply below_alloc | apply pw_below_drewN | apply below_drew1 | refine below_set ?_ GE114.out) | exact HB.out)⟩
       ·rw [if_neg c10] at H
        have c10b0 : decide ((rd y115 x13_1) < 0) = false := decide_eq_false c10
        clear c10
        by_cases c11 : (rd y115 x13_1) > 999
        ·rw [if_pos c11] at H
         have c11b0 : decide (999 < (rd y115 x13_1)) = true := decide_eq_true c11
         clear c11
         obtain rfl := Option.some.inj H
         have p118 : 0 ≤ (x13_1 : Int) := of_decide_eq_true (by first | (with_reducible assumption) | assumption)
         have q118 : x13_1 < (y115.length : Int) := of_decide_eq_true (by first | (with_reducible assumption) | assumption)
         obtain ⟨ad118, e118, hx118_0⟩ := Kd.at_int (Kd.R_reads' HO_11.out).2.2 x13_1 p118 q118
         cases e118
         replace p118 := eq_true p118
         replace q118 := eq_true q118
         go_wp2
         go_ret
         exact ⟨by first | rfl | (simp [errW_none, errW_some] <;> rfl) | (simp [*, errW_none, errW_some] <;> rfl), by repeat (first | (with_reducible first | exact HB.out | apply below_alloc | apply pw_below_drewN | apply below_drew1 | refine below_set ?_ GE114.out) | exact HB.out)⟩
        ·rw [if_neg c11] at H
         have c11b0 : decide (999 < (rd y115 x13_1)) = false := decide_eq_false c11
         clear c11
         have H' := Aside0.mk H
         clear H
         have p118 : 0 ≤ (x13_1 : Int) := of_decide_eq_true (by first | (with_reducible assumption) | assumption)
         have q118 : x13_1 < (y115.length : Int) := of_decide_eq_true (by first | (with_reducible assumption) | assumption)
         obtain ⟨ad118, e118, hx118_0⟩ := Kd.at_int (Kd.R_reads' HO_11.out).2.2 x13_1 p118 q118
         cases e118
         replace p118 := eq_true p118
         replace q118 := eq_true q118
         go_wp2
         go_roundg k1
         case measure => have := HK1.out; omega
         case rel => exact ⟨(wrap64 (x13_1 + 1)), (by first | rfl | (simp; done) | (simp [*]; done) | (congr 1; unfold wrap64; omega)), H', ⟨by have := HK1.out; omega⟩, ⟨by (with_reducible repeat (first | apply Kd.R_alloc | apply Kd.R_drewN | apply Kd.R_drew)); exact HO_11.out⟩, ⟨by (with_reducible repeat (first | refine blk_drewN ?_ _ | refine blk_drew ?_ | refine blk_alloc ?_ _)); exact BK114.out⟩, ⟨by repeat (first | (with_reducible first | exact HB.out | apply below_alloc | apply pw_below_drewN | apply below_drew1 | refine below_set ?_ GE114.out) | exact HB.out)⟩⟩
      ·rw [if_neg c9] at H
       exact absurd H (by simp)
     ·rw [if_neg c8] at H
      exact absurd H (by simp)
    ·rw [if_neg c7] at H
     have c7b0 : decide (x13_1 < (y115.length : Int)) = false := decide_eq_false c7
     clear c7
     replace H := Option.bind_eq_some_iff.mp H
     obtain ⟨t119, A120, H⟩ := H
     replace H : (some t119) = some r := H
     have A12 := Aside0.mk A120
     clear A120
     obtain rfl := Option.some.inj H
     have hcz13_0 : wr.cell? ⟨gb114, 0, none⟩ = some (.int .i64 a0_0) := (blk_cell BK114.out 0).trans rfl
     have hcz13_1 : wr.cell? ⟨gb114, 1, none⟩ = some (.int .u8 a0_1) := (blk_cell BK114.out 1).trans rfl
     have hcz13_2 : wr.cell? ⟨gb114, 2, none⟩ = some (.int .i64 a0_2) := (blk_cell BK114.out 2).trans rfl
     have hcz13_3 : wr.cell? ⟨gb114, 3, none⟩ = some (.int .i64 a0_3) := (blk_cell BK114.out 3).trans rfl
     have hfz13_0 := blk_frozen BK114.out 0
     have hfz13_1 := blk_frozen BK114.out 1
     have hfz13_2 := blk_frozen BK114.out 2
     have hfz13_3 := blk_frozen BK114.out 3
     go_wp2_with (first | ((with_reducible refine gate_callee (f := 36) rfl ?_); refine goesL_ (some 26) rfl rfl Tryd.func36 (by kernel_rfl) rfl #[.int .u8 a0_1, .string (⟨#[65, 66, 68, 69, 73, 90]⟩ : ByteArray)] rfl (by (try simp only [List.map_toArray, List.map_cons, List.map_nil]); first | done | rfl | (simp only [List.length_drop, List.length_take]; rfl)) ?_; (with_reducible refine (table_is.calls a0_1 (⟨#[65, 66, 68, 69, 73, 90]⟩ : ByteArray) t119 _ A12.out).mono ?_); rintro e w14 ⟨rfl, hb⟩; refine ⟨_, rfl, ?_⟩; have n0_ := Aside0.mk (Kd.R_below (by (with_reducible repeat (first | apply Kd.R_alloc | apply Kd.R_drewN | apply Kd.R_drew)); exact HO_11.out) hb); have n1_ := Aside0.mk (blk_below (g := gb114) (o := .cells #[.int .i64 a0_0, .int .u8 a0_1, .int .i64 a0_2, .int .i64 a0_3] 43 (0, 0)) (by (with_reducible repeat (first | refine blk_drewN ?_ _ | refine blk_drew ?_ | refine blk_alloc ?_ _)); exact BK114.out) hb); have n2_ := Aside0.mk (below_step (by repeat (first | (with_reducible first | exact HB.out | apply below_alloc | apply pw_below_drewN | apply below_drew1 | refine below_set ?_ GE114.out) | exact HB.out)) hb); clear HO_11; clear BK114; clear HB; have HO_11 := n0_; have BK114 := n1_; have HB := n2_; clear n0_ n1_ n2_; (try clear hb); (try clear hb2); (try clear hk); (try clear hi)))
     go_ret
     exact ⟨by first | rfl | (simp [errW_none, errW_some] <;> rfl) | (simp [*, errW_none, errW_some] <;> rfl), by repeat (first | (with_reducible first | exact HB.out | apply below_alloc | apply pw_below_drewN | apply below_drew1 | refine below_set ?_ GE114.out) | exact HB.out)⟩

-- by hand: function 40 (strconv_FormatInt)

-- by hand: function 41 (strings_Repeat)

/-! ### bcd_Digits: function 28 -/
def bcd_Digits.f (a0 : Int) (a1 : Int) : Option (ByteArray × Bool) := (strconv_FormatInt.f a0 10).bind fun t120 => (if a0 < 0 then (some ((⟨#[]⟩ : ByteArray), false)) else (if a1 < 1 then (some ((⟨#[]⟩ : ByteArray), false)) else (if a1 > 18 then (some ((⟨#[]⟩ : ByteArray), false)) else (if (t120.size : Int) > a1 then (some ((⟨#[]⟩ : ByteArray), false)) else ((strings_Repeat.f (⟨#[48]⟩ : ByteArray) (wrap64 (a1 - (t120.size : Int)))).bind fun t121 => (if t121.size + t120.size ≤ 9223372036854775807 then (some (t121 ++ t120, true)) else (none)))))))
set_option maxHeartbeats 8000000 in
set_option maxRecDepth 100000 in
theorem bcd_Digits.calls (a0 : Int) (a1 : Int) (r1 : ByteArray) (r2 : Bool) (w : World) (hT : TabH w) (h : bcd_Digits.f a0 a1 = some (r1, r2)) :
    Calls Tryd.prog 28 #[.int .i64 a0, .int .i64 a1] w fun e w' => e = .returned (.tuple #[.string r1, .bool r2]) ∧ Below w.heap.size w w' := by
  have HT := Aside0.mk hT
  clear hT
  have HB := Aside0.mk (Below.refl w.heap.size w)
  have H : ((strconv_FormatInt.f a0 10).bind fun t120 => (if a0 < 0 then (some ((⟨#[]⟩ : ByteArray), false)) else (if a1 < 1 then (some ((⟨#[]⟩ : ByteArray), false)) else (if a1 > 18 then (some ((⟨#[]⟩ : ByteArray), false)) else (if (t120.size : Int) > a1 then (some ((⟨#[]⟩ : ByteArray), false)) else ((strings_Repeat.f (⟨#[48]⟩ : ByteArray) (wrap64 (a1 - (t120.size : Int)))).bind fun t121 => (if t121.size + t120.size ≤ 9223372036854775807 then (some (t121 ++ t120, true)) else (none)))))))) = some (r1, r2) := h
  clear h
  replace H := Option.bind_eq_some_iff.mp H
  obtain ⟨t120, A30, H⟩ := H
  replace H : (if a0 < 0 then (some ((⟨#[]⟩ : ByteArray), false)) else (if a1 < 1 then (some ((⟨#[]⟩ : ByteArray), false)) else (if a1 > 18 then (some ((⟨#[]⟩ : ByteArray), false)) else (if (t120.size : Int) > a1 then (some ((⟨#[]⟩ : ByteArray), false)) else ((strings_Repeat.f (⟨#[48]⟩ : ByteArray) (wrap64 (a1 - (t120.size : Int)))).bind fun t121 => (if t121.size + t120.size ≤ 9223372036854775807 then (some (t121 ++ t120, true)) else (none))))))) = some (r1, r2) := H
  have A3 := Aside0.mk A30
  clear A30
  by_cases c4 : a0 < 0
  ·rw [if_pos c4] at H
   have c4b0 : decide (a0 < 0) = true := decide_eq_true c4
   clear c4
   simp only [Option.some.injEq, Prod.mk.injEq] at H
   obtain ⟨rfl, rfl⟩ := H
   go_enter Tryd.func28, Tryd.ntmps28
   go_wp2_with (first | ((with_reducible refine gate_callee (f := 40) rfl ?_); refine goesL_ (some 8) rfl rfl Tryd.func40 (by kernel_rfl) rfl #[.int .i64 a0, .int .i64 10] rfl (by (try simp only [List.map_toArray, List.map_cons, List.map_nil]); first | done | rfl | (simp only [List.length_drop, List.length_take]; rfl)) ?_; (with_reducible refine (strconv_FormatInt.calls a0 10 t120 _ ?side1 A3.out).mono ?_); (case side1 => exact TabH.below HT.out (by repeat (first | (with_reducible first | exact HB.out | apply below_alloc | apply pw_below_drewN | apply below_drew1) | exact HB.out))); rintro e w5 ⟨rfl, hb⟩; refine ⟨_, rfl, ?_⟩; have n0_ := Aside0.mk (below_step (by repeat (first | (with_reducible first | exact HB.out | apply below_alloc | apply pw_below_drewN | apply below_drew1) | exact HB.out)) hb); clear HB; have HB := n0_; clear n0_; (try clear hb); (try clear hb2); (try clear hk); (try clear hi)))
   go_ret2
   exact ⟨by first | rfl | (simp [errW_none, errW_some] <;> rfl) | (simp [*, errW_none, errW_some] <;> rfl), by repeat (first | (with_reducible first | exact HB.out | apply below_alloc | apply pw_below_drewN | apply below_drew1) | exact HB.out)⟩
  ·rw [if_neg c4] at H
   have c4b0 : decide (a0 < 0) = false := decide_eq_false c4
   clear c4
   by_cases c6 : a1 < 1
   ·rw [if_pos c6] at H
    have c6b0 : decide (a1 < 1) = true := decide_eq_true c6
    clear c6
    simp only [Option.some.injEq, Prod.mk.injEq] at H
    obtain ⟨rfl, rfl⟩ := H
    go_enter Tryd.func28, Tryd.ntmps28
    go_wp2_with (first | ((with_reducible refine gate_callee (f := 40) rfl ?_); refine goesL_ (some 8) rfl rfl Tryd.func40 (by kernel_rfl) rfl #[.int .i64 a0, .int .i64 10] rfl (by (try simp only [List.map_toArray, List.map_cons, List.map_nil]); first | done | rfl | (simp only [List.length_drop, List.length_take]; rfl)) ?_; (with_reducible refine (strconv_FormatInt.calls a0 10 t120 _ ?side1 A3.out).mono ?_); (case side1 => exact TabH.below HT.out (by repeat (first | (with_reducible first | exact HB.out | apply below_alloc | apply pw_below_drewN | apply below_drew1) | exact HB.out))); rintro e w7 ⟨rfl, hb⟩; refine ⟨_, rfl, ?_⟩; have n0_ := Aside0.mk (below_step (by repeat (first | (with_reducible first | exact HB.out | apply below_alloc | apply pw_below_drewN | apply below_drew1) | exact HB.out)) hb); clear HB; have HB := n0_; clear n0_; (try clear hb); (try clear hb2); (try clear hk); (try clear hi)))
    go_ret2
    exact ⟨by first | rfl | (simp [errW_none, errW_some] <;> rfl) | (simp [*, errW_none, errW_some] <;> rfl), by repeat (first | (with_reducible first | exact HB.out | apply below_alloc | apply pw_below_drewN | apply below_drew1) | exact HB.out)⟩
   ·rw [if_neg c6] at H
    have c6b0 : decide (a1 < 1) = false := decide_eq_false c6
    clear c6
    by_cases c8 : a1 > 18
    ·rw [if_pos c8] at H
     have c8b0 : decide (18 < a1) = true := decide_eq_true c8
     clear c8
     simp only [Option.some.injEq, Prod.mk.injEq] at H
     obtain ⟨rfl, rfl⟩ := H
     go_enter Tryd.func28, Tryd.ntmps28
     go_wp2_with (first | ((with_reducible refine gate_callee (f := 40) rfl ?_); refine goesL_ (some 8) rfl rfl Tryd.func40 (by kernel_rfl) rfl #[.int .i64 a0, .int .i64 10] rfl (by (try simp only [List.map_toArray, List.map_cons, List.map_nil]); first | done | rfl | (simp only [List.length_drop, List.length_take]; rfl)) ?_; (with_reducible refine (strconv_FormatInt.calls a0 10 t120 _ ?side1 A3.out).mono ?_); (case side1 => exact TabH.below HT.out (by repeat (first | (with_reducible first | exact HB.out | apply below_alloc | apply pw_below_drewN | apply below_drew1) | exact HB.out))); rintro e w9 ⟨rfl, hb⟩; refine ⟨_, rfl, ?_⟩; have n0_ := Aside0.mk (below_step (by repeat (first | (with_reducible first | exact HB.out | apply below_alloc | apply pw_below_drewN | apply below_drew1) | exact HB.out)) hb); clear HB; have HB := n0_; clear n0_; (try clear hb); (try clear hb2); (try clear hk); (try clear hi)))
     go_ret2
     exact ⟨by first | rfl | (simp [errW_none, errW_some] <;> rfl) | (simp [*, errW_none, errW_some] <;> rfl), by repeat (first | (with_reducible first | exact HB.out | apply below_alloc | apply pw_below_drewN | apply below_drew1) | exact HB.out)⟩
    ·rw [if_neg c8] at H
     have c8b0 : decide (18 < a1) = false := decide_eq_false c8
     clear c8
     by_cases c10 : (t120.size : Int) > a1
     ·rw [if_pos c10] at H
      have c10b0 : decide (a1 < (t120.size : Int)) = true := decide_eq_true c10
      clear c10
      simp only [Option.some.injEq, Prod.mk.injEq] at H
      obtain ⟨rfl, rfl⟩ := H
      go_enter Tryd.func28, Tryd.ntmps28
      go_wp2_with (first | ((with_reducible refine gate_callee (f := 40) rfl ?_); refine goesL_ (some 8) rfl rfl Tryd.func40 (by kernel_rfl) rfl #[.int .i64 a0, .int .i64 10] rfl (by (try simp only [List.map_toArray, List.map_cons, List.map_nil]); first | done | rfl | (simp only [List.length_drop, List.length_take]; rfl)) ?_; (with_reducible refine (strconv_FormatInt.calls a0 10 t120 _ ?side1 A3.out).mono ?_); (case side1 => exact TabH.below HT.out (by repeat (first | (with_reducible first | exact HB.out | apply below_alloc | apply pw_below_drewN | apply below_drew1) | exact HB.out))); rintro e w11 ⟨rfl, hb⟩; refine ⟨_, rfl, ?_⟩; have n0_ := Aside0.mk (below_step (by repeat (first | (with_reducible first | exact HB.out | apply below_alloc | apply pw_below_drewN | apply below_drew1) | exact HB.out)) hb); clear HB; have HB := n0_; clear n0_; (try clear hb); (try clear hb2); (try clear hk); (try clear hi)))
      go_ret2
      exact ⟨by first | rfl | (simp [errW_none, errW_some] <;> rfl) | (simp [*, errW_none, errW_some] <;> rfl), by repeat (first | (with_reducible first | exact HB.out | apply below_alloc | apply pw_below_drewN | apply below_drew1) | exact HB.out)⟩
     ·rw [if_neg c10] at H
      have c10b0 : decide (a1 < (t120.size : Int)) = false := decide_eq_false c10
      clear c10
      replace H := Option.bind_eq_some_iff.mp H
      obtain ⟨t121, A120, H⟩ := H
      replace H : (if t121.size + t120.size ≤ 9223372036854775807 then (some (t121 ++ t120, true)) else (none)) = some (r1, r2) := H
      have A12 := Aside0.mk A120
      clear A120
      by_cases c13 : t121.size + t120.size ≤ 9223372036854775807
      ·rw [if_pos c13] at H
       have c13b0 := eq_true c13
       have c13b1 : decide (t121.size + t120.size ≤ 9223372036854775807) = true := decide_eq_true c13
       try have c13b2 : (9223372036854775807 < t121.size + t120.size) = False := eq_false (Nat.not_lt.2 c13)
       simp only [Option.some.injEq, Prod.mk.injEq] at H
       obtain ⟨rfl, rfl⟩ := H
       go_enter Tryd.func28, Tryd.ntmps28
       go_wp2_with (first | ((with_reducible refine gate_callee (f := 40) rfl ?_); refine goesL_ (some 8) rfl rfl Tryd.func40 (by kernel_rfl) rfl #[.int .i64 a0, .int .i64 10] rfl (by (try simp only [List.map_toArray, List.map_cons, List.map_nil]); first | done | rfl | (simp only [List.length_drop, List.length_take]; rfl)) ?_; (with_reducible refine (strconv_FormatInt.calls a0 10 t120 _ ?side1 A3.out).mono ?_); (case side1 => exact TabH.below HT.out (by repeat (first | (with_reducible first | exact HB.out | apply below_alloc | apply pw_below_drewN | apply below_drew1) | exact HB.out))); rintro e w14 ⟨rfl, hb⟩; refine ⟨_, rfl, ?_⟩; have n0_ := Aside0.mk (below_step (by repeat (first | (with_reducible first | exact HB.out | apply below_alloc | apply pw_below_drewN | apply below_drew1) | exact HB.out)) hb); clear HB; have HB := n0_; clear n0_; (try clear hb); (try clear hb2); (try clear hk); (try clear hi)) | ((with_reducible refine gate_callee (f := 41) rfl ?_); refine goesL_ (some 29) rfl rfl Tryd.func41 (by kernel_rfl) rfl #[.string (⟨#[48]⟩ : ByteArray), .int .i64 (wrap64 (a1 - (t120.size : Int)))] rfl (by (try simp only [List.map_toArray, List.map_cons, List.map_nil]); first | done | rfl | (simp only [List.length_drop, List.length_take]; rfl)) ?_; (with_reducible refine (strings_Repeat.calls (⟨#[48]⟩ : ByteArray) (wrap64 (a1 - (t120.size : Int))) t121 _ A12.out).mono ?_); rintro e w15 ⟨rfl, hb⟩; refine ⟨_, rfl, ?_⟩; have n0_ := Aside0.mk (below_step (by repeat (first | (with_reducible first | exact HB.out | apply below_alloc | apply pw_below_drewN | apply below_drew1) | exact HB.out)) hb); clear HB; have HB := n0_; clear n0_; (try clear hb); (try clear hb2); (try clear hk); (try clear hi)))
       go_ret2
       exact ⟨by first | rfl | (simp [errW_none, errW_some] <;> rfl) | (simp [*, errW_none, errW_some] <;> rfl), by repeat (first | (with_reducible first | exact HB.out | apply below_alloc | apply pw_below_drewN | apply below_drew1) | exact HB.out)⟩
      ·rw [if_neg c13] at H
       exact absurd H (by simp)

theorem sz1_ : (⟨#[32]⟩ : ByteArray).size = 1 := rfl
/-! ### table_line: function 34 -/
def table_line.f (a0_0 : Int) (a0_1 : Int) (a0_2 : Int) (a0_3 : Int) : Option (ByteArray) := (bcd_Digits.f a0_0 3).bind fun bt123 => ((bcd_Digits.f a0_2 3).bind fun bt125 => ((bcd_Digits.f a0_3 3).bind fun bt127 => (if bt123.1.size + 1 ≤ 9223372036854775807 then ((some (([a0_1] : List Int) : List Int)).bind fun y129 => (if (bt123.1 ++ (⟨#[32]⟩ : ByteArray)).size + (strOfNums y129).size ≤ 9223372036854775807 then (if ((bt123.1 ++ (⟨#[32]⟩ : ByteArray)) ++ (strOfNums y129)).size + 1 ≤ 9223372036854775807 then (if (((bt123.1 ++ (⟨#[32]⟩ : ByteArray)) ++ (strOfNums y129)) ++ (⟨#[32]⟩ : ByteArray)).size + bt125.1.size ≤ 9223372036854775807 then (if ((((bt123.1 ++ (⟨#[32]⟩ : ByteArray)) ++ (strOfNums y129)) ++ (⟨#[32]⟩ : ByteArray)) ++ bt125.1).size + 1 ≤ 9223372036854775807 then (if (((((bt123.1 ++ (⟨#[32]⟩ : ByteArray)) ++ (strOfNums y129)) ++ (⟨#[32]⟩ : ByteArray)) ++ bt125.1) ++ (⟨#[32]⟩ : ByteArray)).size + bt127.1.size ≤ 9223372036854775807 then (some ((((((bt123.1 ++ (⟨#[32]⟩ : ByteArray)) ++ (strOfNums y129)) ++ (⟨#[32]⟩ : ByteArray)) ++ bt125.1) ++ (⟨#[32]⟩ : ByteArray)) ++ bt127.1)) else (none)) else (none)) else (none)) else (none)) else (none))) else (none))))
set_option maxHeartbeats 8000000 in
set_option maxRecDepth 100000 in
theorem table_line.calls (a0_0 : Int) (a0_1 : Int) (a0_2 : Int) (a0_3 : Int) (r : ByteArray) (w : World) (hT : TabH w) (h : table_line.f a0_0 a0_1 a0_2 a0_3 = some r) :
    Calls Tryd.prog 34 #[.agg #[.int .i64 a0_0, .int .u8 a0_1, .int .i64 a0_2, .int .i64 a0_3]] w fun e w' => e = .returned (.string r) ∧ Below w.heap.size w w' := by
  have hu43 := Tryd.underlying43
  have HT := Aside0.mk hT
  clear hT
  have HB := Aside0.mk (Below.refl w.heap.size w)
  have H : ((bcd_Digits.f a0_0 3).bind fun bt123 => ((bcd_Digits.f a0_2 3).bind fun bt125 => ((bcd_Digits.f a0_3 3).bind fun bt127 => (if bt123.1.size + 1 ≤ 9223372036854775807 then ((some (([a0_1] : List Int) : List Int)).bind fun y129 => (if (bt123.1 ++ (⟨#[32]⟩ : ByteArray)).size + (strOfNums y129).size ≤ 9223372036854775807 then (if ((bt123.1 ++ (⟨#[32]⟩ : ByteArray)) ++ (strOfNums y129)).size + 1 ≤ 9223372036854775807 then (if (((bt123.1 ++ (⟨#[32]⟩ : ByteArray)) ++ (strOfNums y129)) ++ (⟨#[32]⟩ : ByteArray)).size + bt125.1.size ≤ 9223372036854775807 then (if ((((bt123.1 ++ (⟨#[32]⟩ : ByteArray)) ++ (strOfNums y129)) ++ (⟨#[32]⟩ : ByteArray)) ++ bt125.1).size + 1 ≤ 9223372036854775807 then (if (((((bt123.1 ++ (⟨#[32]⟩ : ByteArray)) ++ (strOfNums y129)) ++ (⟨#[32]⟩ : ByteArray)) ++ bt125.1) ++ (⟨#[32]⟩ : ByteArray)).size + bt127.1.size ≤ 9223372036854775807 then (some ((((((bt123.1 ++ (⟨#[32]⟩ : ByteArray)) ++ (strOfNums y129)) ++ (⟨#[32]⟩ : ByteArray)) ++ bt125.1) ++ (⟨#[32]⟩ : ByteArray)) ++ bt127.1)) else (none)) else (none)) else (none)) else (none)) else (none))) else (none))))) = some r := h
  clear h
  replace H := Option.bind_eq_some_iff.mp H
  obtain ⟨⟨t123, t124⟩, A20, H⟩ := H
  replace H : ((bcd_Digits.f a0_2 3).bind fun bt125 => ((bcd_Digits.f a0_3 3).bind fun bt127 => (if t123.size + 1 ≤ 9223372036854775807 then ((some (([a0_1] : List Int) : List Int)).bind fun y129 => (if (t123 ++ (⟨#[32]⟩ : ByteArray)).size + (strOfNums y129).size ≤ 9223372036854775807 then (if ((t123 ++ (⟨#[32]⟩ : ByteArray)) ++ (strOfNums y129)).size + 1 ≤ 9223372036854775807 then (if (((t123 ++ (⟨#[32]⟩ : ByteArray)) ++ (strOfNums y129)) ++ (⟨#[32]⟩ : ByteArray)).size + bt125.1.size ≤ 9223372036854775807 then (if ((((t123 ++ (⟨#[32]⟩ : ByteArray)) ++ (strOfNums y129)) ++ (⟨#[32]⟩ : ByteArray)) ++ bt125.1).size + 1 ≤ 9223372036854775807 then (if (((((t123 ++ (⟨#[32]⟩ : ByteArray)) ++ (strOfNums y129)) ++ (⟨#[32]⟩ : ByteArray)) ++ bt125.1) ++ (⟨#[32]⟩ : ByteArray)).size + bt127.1.size ≤ 9223372036854775807 then (some ((((((t123 ++ (⟨#[32]⟩ : ByteArray)) ++ (strOfNums y129)) ++ (⟨#[32]⟩ : ByteArray)) ++ bt125.1) ++ (⟨#[32]⟩ : ByteArray)) ++ bt127.1)) else (none)) else (none)) else (none)) else (none)) else (none))) else (none)))) = some r := H
  have A2 := Aside0.mk A20
  clear A20
  replace H := Option.bind_eq_some_iff.mp H
  obtain ⟨⟨t125, t126⟩, A30, H⟩ := H
  replace H : ((bcd_Digits.f a0_3 3).bind fun bt127 => (if t123.size + 1 ≤ 9223372036854775807 then ((some (([a0_1] : List Int) : List Int)).bind fun y129 => (if (t123 ++ (⟨#[32]⟩ : ByteArray)).size + (strOfNums y129).size ≤ 9223372036854775807 then (if ((t123 ++ (⟨#[32]⟩ : ByteArray)) ++ (strOfNums y129)).size + 1 ≤ 9223372036854775807 then (if (((t123 ++ (⟨#[32]⟩ : ByteArray)) ++ (strOfNums y129)) ++ (⟨#[32]⟩ : ByteArray)).size + t125.size ≤ 9223372036854775807 then (if ((((t123 ++ (⟨#[32]⟩ : ByteArray)) ++ (strOfNums y129)) ++ (⟨#[32]⟩ : ByteArray)) ++ t125).size + 1 ≤ 9223372036854775807 then (if (((((t123 ++ (⟨#[32]⟩ : ByteArray)) ++ (strOfNums y129)) ++ (⟨#[32]⟩ : ByteArray)) ++ t125) ++ (⟨#[32]⟩ : ByteArray)).size + bt127.1.size ≤ 9223372036854775807 then (some ((((((t123 ++ (⟨#[32]⟩ : ByteArray)) ++ (strOfNums y129)) ++ (⟨#[32]⟩ : ByteArray)) ++ t125) ++ (⟨#[32]⟩ : ByteArray)) ++ bt127.1)) else (none)) else (none)) else (none)) else (none)) else (none))) else (none))) = some r := H
  have A3 := Aside0.mk A30
  clear A30
  replace H := Option.bind_eq_some_iff.mp H
  obtain ⟨⟨t127, t128⟩, A40, H⟩ := H
  replace H : (if t123.size + 1 ≤ 9223372036854775807 then ((some (([a0_1] : List Int) : List Int)).bind fun y129 => (if (t123 ++ (⟨#[32]⟩ : ByteArray)).size + (strOfNums y129).size ≤ 9223372036854775807 then (if ((t123 ++ (⟨#[32]⟩ : ByteArray)) ++ (strOfNums y129)).size + 1 ≤ 9223372036854775807 then (if (((t123 ++ (⟨#[32]⟩ : ByteArray)) ++ (strOfNums y129)) ++ (⟨#[32]⟩ : ByteArray)).size + t125.size ≤ 9223372036854775807 then (if ((((t123 ++ (⟨#[32]⟩ : ByteArray)) ++ (strOfNums y129)) ++ (⟨#[32]⟩ : ByteArray)) ++ t125).size + 1 ≤ 9223372036854775807 then (if (((((t123 ++ (⟨#[32]⟩ : ByteArray)) ++ (strOfNums y129)) ++ (⟨#[32]⟩ : ByteArray)) ++ t125) ++ (⟨#[32]⟩ : ByteArray)).size + t127.size ≤ 9223372036854775807 then (some ((((((t123 ++ (⟨#[32]⟩ : ByteArray)) ++ (strOfNums y129)) ++ (⟨#[32]⟩ : ByteArray)) ++ t125) ++ (⟨#[32]⟩ : ByteArray)) ++ t127)) else (none)) else (none)) else (none)) else (none)) else (none))) else (none)) = some r := H
  have A4 := Aside0.mk A40
  clear A40
  by_cases c5 : t123.size + 1 ≤ 9223372036854775807
  ·rw [if_pos c5] at H
   have c5b0 := eq_true c5
   have c5b1 : decide (t123.size + 1 ≤ 9223372036854775807) = true := decide_eq_true c5
   try have c5b2 : (9223372036854775807 < t123.size + 1) = False := eq_false (Nat.not_lt.2 c5)
   (try (have c5n := c5; simp only [ByteArray.size_append, sz1_] at c5n; have c5m := eq_false (Nat.not_lt.2 c5n)))
   obtain ⟨y129, hy129⟩ : ∃ y_ : List Int, y_ = (([a0_1] : List Int)) := ⟨_, rfl⟩
   replace H : (if (t123 ++ (⟨#[32]⟩ : ByteArray)).size + (strOfNums y129).size ≤ 9223372036854775807 then (if ((t123 ++ (⟨#[32]⟩ : ByteArray)) ++ (strOfNums y129)).size + 1 ≤ 9223372036854775807 then (if (((t123 ++ (⟨#[32]⟩ : ByteArray)) ++ (strOfNums y129)) ++ (⟨#[32]⟩ : ByteArray)).size + t125.size ≤ 9223372036854775807 then (if ((((t123 ++ (⟨#[32]⟩ : ByteArray)) ++ (strOfNums y129)) ++ (⟨#[32]⟩ : ByteArray)) ++ t125).size + 1 ≤ 9223372036854775807 then (if (((((t123 ++ (⟨#[32]⟩ : ByteArray)) ++ (strOfNums y129)) ++ (⟨#[32]⟩ : ByteArray)) ++ t125) ++ (⟨#[32]⟩ : ByteArray)).size + t127.size ≤ 9223372036854775807 then (some ((((((t123 ++ (⟨#[32]⟩ : ByteArray)) ++ (strOfNums y129)) ++ (⟨#[32]⟩ : ByteArray)) ++ t125) ++ (⟨#[32]⟩ : ByteArray)) ++ t127)) else (none)) else (none)) else (none)) else (none)) else (none)) = some r := by first | (rw [hy129]; with_reducible exact H) | (have H2_ := (Option.bind_some _ _).symm.trans H; rw [hy129]; with_reducible exact H2_) | (have H2_ := (Option.bind_some _ _).symm.trans H; with_reducible exact H2_) | with_reducible exact H | (rw [hy129]; exact H) | exact H
   have Ny129 := Aside0.mk hy129
   clear hy129
   by_cases c6 : (t123 ++ (⟨#[32]⟩ : ByteArray)).size + (strOfNums y129).size ≤ 9223372036854775807
   ·rw [if_pos c6] at H
    have c6b0 := eq_true c6
    have c6b1 : decide ((t123 ++ (⟨#[32]⟩ : ByteArray)).size + (strOfNums y129).size ≤ 9223372036854775807) = true := decide_eq_true c6
    try have c6b2 : (9223372036854775807 < (t123 ++ (⟨#[32]⟩ : ByteArray)).size + (strOfNums y129).size) = False := eq_false (Nat.not_lt.2 c6)
    (try (have c6n := c6; simp only [ByteArray.size_append, sz1_] at c6n; have c6m := eq_false (Nat.not_lt.2 c6n)))
    by_cases c7 : ((t123 ++ (⟨#[32]⟩ : ByteArray)) ++ (strOfNums y129)).size + 1 ≤ 9223372036854775807
    ·rw [if_pos c7] at H
     have c7b0 := eq_true c7
     have c7b1 : decide (((t123 ++ (⟨#[32]⟩ : ByteArray)) ++ (strOfNums y129)).size + 1 ≤ 9223372036854775807) = true := decide_eq_true c7
     try have c7b2 : (9223372036854775807 < ((t123 ++ (⟨#[32]⟩ : ByteArray)) ++ (strOfNums y129)).size + 1) = False := eq_false (Nat.not_lt.2 c7)
     (try (have c7n := c7; simp only [ByteArray.size_append, sz1_] at c7n; have c7m := eq_false (Nat.not_lt.2 c7n)))
     by_cases c8 : (((t123 ++ (⟨#[32]⟩ : ByteArray)) ++ (strOfNums y129)) ++ (⟨#[32]⟩ : ByteArray)).size + t125.size ≤ 9223372036854775807
     ·rw [if_pos c8] at H
      have c8b0 := eq_true c8
      have c8b1 : decide ((((t123 ++ (⟨#[32]⟩ : ByteArray)) ++ (strOfNums y129)) ++ (⟨#[32]⟩ : ByteArray)).size + t125.size ≤ 9223372036854775807) = true := decide_eq_true c8
      try have c8b2 : (9223372036854775807 < (((t123 ++ (⟨#[32]⟩ : ByteArray)) ++ (strOfNums y129)) ++ (⟨#[32]⟩ : ByteArray)).size + t125.size) = False := eq_false (Nat.not_lt.2 c8)
      (try (have c8n := c8; simp only [ByteArray.size_append, sz1_] at c8n; have c8m := eq_false (Nat.not_lt.2 c8n)))
      by_cases c9 : ((((t123 ++ (⟨#[32]⟩ : ByteArray)) ++ (strOfNums y129)) ++ (⟨#[32]⟩ : ByteArray)) ++ t125).size + 1 ≤ 9223372036854775807
      ·rw [if_pos c9] at H
       have c9b0 := eq_true c9
       have c9b1 : decide (((((t123 ++ (⟨#[32]⟩ : ByteArray)) ++ (strOfNums y129)) ++ (⟨#[32]⟩ : ByteArray)) ++ t125).size + 1 ≤ 9223372036854775807) = true := decide_eq_true c9
       try have c9b2 : (9223372036854775807 < ((((t123 ++ (⟨#[32]⟩ : ByteArray)) ++ (strOfNums y129)) ++ (⟨#[32]⟩ : ByteArray)) ++ t125).size + 1) = False := eq_false (Nat.not_lt.2 c9)
       (try (have c9n := c9; simp only [ByteArray.size_append, sz1_] at c9n; have c9m := eq_false (Nat.not_lt.2 c9n)))
       by_cases c10 : (((((t123 ++ (⟨#[32]⟩ : ByteArray)) ++ (strOfNums y129)) ++ (⟨#[32]⟩ : ByteArray)) ++ t125) ++ (⟨#[32]⟩ : ByteArray)).size + t127.size ≤ 9223372036854775807
       ·rw [if_pos c10] at H
        have c10b0 := eq_true c10
        have c10b1 : decide ((((((t123 ++ (⟨#[32]⟩ : ByteArray)) ++ (strOfNums y129)) ++ (⟨#[32]⟩ : ByteArray)) ++ t125) ++ (⟨#[32]⟩ : ByteArray)).size + t127.size ≤ 9223372036854775807) = true := decide_eq_true c10
        try have c10b2 : (9223372036854775807 < (((((t123 ++ (⟨#[32]⟩ : ByteArray)) ++ (strOfNums y129)) ++ (⟨#[32]⟩ : ByteArray)) ++ t125) ++ (⟨#[32]⟩ : ByteArray)).size + t127.size) = False := eq_false (Nat.not_lt.2 c10)
        (try (have c10n := c10; simp only [ByteArray.size_append, sz1_] at c10n; have c10m := eq_false (Nat.not_lt.2 c10n)))
        obtain rfl := Option.some.inj H
        go_enter Tryd.func34, Tryd.ntmps34
        go_wp2_with (first | ((with_reducible refine gate_dst (N := 1) rfl ?_); refine box_event ?hg (N := 1) ?hd (cs := #[.int .i64 a0_0, .int .u8 a0_1, .int .i64 a0_2, .int .i64 a0_3]) (t := 43) ?hr ?_; (case hd => rfl); (case hg => rfl); (case hr => first | (go_simp; done) | (go_simp; rfl)); intro gb122 hg w11 hbox hb; have n0_ := Aside0.mk (below_step (by repeat (first | (with_reducible first | exact HB.out | apply below_alloc | apply pw_below_drewN | apply below_drew1) | exact HB.out)) hb); have n1_ := Aside0.mk (hbox); have n2_ := Aside0.mk ((by rw [hg]; exact (below_size (by repeat (first | (with_reducible first | exact HB.out | apply below_alloc | apply pw_below_drewN | apply below_drew1) | exact HB.out))) : w.heap.size ≤ gb122)); have n3_ := Aside0.mk ((by rw [hg]; exact (below_size (by repeat (first | (with_reducible first | exact HB.out | apply below_alloc | apply pw_below_drewN | apply below_drew1) | exact HB.out))) : w.heap.size ≤ gb122)); clear HB; have HB := n0_; have BK122 := n1_; have GW122 := n2_; have GE122 := n3_; clear n0_ n1_ n2_ n3_; clear hb hbox hg; have hcz12_0 : w11.cell? ⟨gb122, 0, none⟩ = some (.int .i64 a0_0) := (blk_cell BK122.out 0).trans rfl; have hcz12_1 : w11.cell? ⟨gb122, 1, none⟩ = some (.int .u8 a0_1) := (blk_cell BK122.out 1).trans rfl; have hcz12_2 : w11.cell? ⟨gb122, 2, none⟩ = some (.int .i64 a0_2) := (blk_cell BK122.out 2).trans rfl; have hcz12_3 : w11.cell? ⟨gb122, 3, none⟩ = some (.int .i64 a0_3) := (blk_cell BK122.out 3).trans rfl; have hfz12_0 := blk_frozen BK122.out 0; have hfz12_1 := blk_frozen BK122.out 1; have hfz12_2 := blk_frozen BK122.out 2; have hfz12_3 := blk_frozen BK122.out 3) | ((with_reducible refine gate_callee (f := 28) rfl ?_); refine goesL_ (some 12) rfl rfl Tryd.func28 (by kernel_rfl) rfl #[.int .i64 a0_0, .int .i64 3] rfl (by (try simp only [List.map_toArray, List.map_cons, List.map_nil]); first | done | rfl | (simp only [List.length_drop, List.length_take]; rfl)) ?_; (with_reducible refine (bcd_Digits.calls a0_0 3 t123 t124 _ ?side1 A2.out).mono ?_); (case side1 => exact TabH.below HT.out (by repeat (first | (with_reducible first | exact HB.out | apply below_alloc | apply pw_below_drewN | apply below_drew1 | refine below_set ?_ GE122.out) | exact HB.out))); rintro e w13 ⟨rfl, hb⟩; refine ⟨_, rfl, ?_⟩; have n0_ := Aside0.mk (blk_below (g := gb122) (o := .cells #[.int .i64 a0_0, .int .u8 a0_1, .int .i64 a0_2, .int .i64 a0_3] 43 (0, 0)) (by (with_reducible repeat (first | refine blk_drewN ?_ _ | refine blk_drew ?_ | refine blk_alloc ?_ _)); exact BK122.out) hb); have n1_ := Aside0.mk (below_step (by repeat (first | (with_reducible first | exact HB.out | apply below_alloc | apply pw_below_drewN | apply below_drew1 | refine below_set ?_ GE122.out) | exact HB.out)) hb); clear BK122; clear HB; have BK122 := n0_; have HB := n1_; clear n0_ n1_; (try clear hb); (try clear hb2); (try clear hk); (try clear hi); have hcz14_0 : w13.cell? ⟨gb122, 0, none⟩ = some (.int .i64 a0_0) := (blk_cell BK122.out 0).trans rfl; have hcz14_1 : w13.cell? ⟨gb122, 1, none⟩ = some (.int .u8 a0_1) := (blk_cell BK122.out 1).trans rfl; have hcz14_2 : w13.cell? ⟨gb122, 2, none⟩ = some (.int .i64 a0_2) := (blk_cell BK122.out 2).trans rfl; have hcz14_3 : w13.cell? ⟨gb122, 3, none⟩ = some (.int .i64 a0_3) := (blk_cell BK122.out 3).trans rfl; have hfz14_0 := blk_frozen BK122.out 0; have hfz14_1 := blk_frozen BK122.out 1; have hfz14_2 := blk_frozen BK122.out 2; have hfz14_3 := blk_frozen BK122.out 3) | ((with_reducible refine gate_callee (f := 28) rfl ?_); refine goesL_ (some 18) rfl rfl Tryd.func28 (by kernel_rfl) rfl #[.int .i64 a0_2, .int .i64 3] rfl (by (try simp only [List.map_toArray, List.map_cons, List.map_nil]); first | done | rfl | (simp only [List.length_drop, List.length_take]; rfl)) ?_; (with_reducible refine (bcd_Digits.calls a0_2 3 t125 t126 _ ?side1 A3.out).mono ?_); (case side1 => exact TabH.below HT.out (by repeat (first | (with_reducible first | exact HB.out | apply below_alloc | apply pw_below_drewN | apply below_drew1 | refine below_set ?_ GE122.out) | exact HB.out))); rintro e w15 ⟨rfl, hb⟩; refine ⟨_, rfl, ?_⟩; have n0_ := Aside0.mk (blk_below (g := gb122) (o := .cells #[.int .i64 a0_0, .int .u8 a0_1, .int .i64 a0_2, .int .i64 a0_3] 43 (0, 0)) (by (with_reducible repeat (first | refine blk_drewN ?_ _ | refine blk_drew ?_ | refine blk_alloc ?_ _)); exact BK122.out) hb); have n1_ := Aside0.mk (below_step (by repeat (first | (with_reducible first | exact HB.out | apply below_alloc | apply pw_below_drewN | apply below_drew1 | refine below_set ?_ GE122.out) | exact HB.out)) hb); clear BK122; clear HB; have BK122 := n0_; have HB := n1_; clear n0_ n1_; (try clear hb); (try clear hb2); (try clear hk); (try clear hi); have hcz16_0 : w15.cell? ⟨gb122, 0, none⟩ = some (.int .i64 a0_0) := (blk_cell BK122.out 0).trans rfl; have hcz16_1 : w15.cell? ⟨gb122, 1, none⟩ = some (.int .u8 a0_1) := (blk_cell BK122.out 1).trans rfl; have hcz16_2 : w15.cell? ⟨gb122, 2, none⟩ = some (.int .i64 a0_2) := (blk_cell BK122.out 2).trans rfl; have hcz16_3 : w15.cell? ⟨gb122, 3, none⟩ = some (.int .i64 a0_3) := (blk_cell BK122.out 3).trans rfl; have hfz16_0 := blk_frozen BK122.out 0; have hfz16_1 := blk_frozen BK122.out 1; have hfz16_2 := blk_frozen BK122.out 2; have hfz16_3 := blk_frozen BK122.out 3) | ((with_reducible refine gate_callee (f := 28) rfl ?_); refine goesL_ (some 24) rfl rfl Tryd.func28 (by kernel_rfl) rfl #[.int .i64 a0_3, .int .i64 3] rfl (by (try simp only [List.map_toArray, List.map_cons, List.map_nil]); first | done | rfl | (simp only [List.length_drop, List.length_take]; rfl)) ?_; (with_reducible refine (bcd_Digits.calls a0_3 3 t127 t128 _ ?side1 A4.out).mono ?_); (case side1 => exact TabH.below HT.out (by repeat (first | (with_reducible first | exact HB.out | apply below_alloc | apply pw_below_drewN | apply below_drew1 | refine below_set ?_ GE122.out) | exact HB.out))); rintro e w17 ⟨rfl, hb⟩; refine ⟨_, rfl, ?_⟩; have n0_ := Aside0.mk (blk_below (g := gb122) (o := .cells #[.int .i64 a0_0, .int .u8 a0_1, .int .i64 a0_2, .int .i64 a0_3] 43 (0, 0)) (by (with_reducible repeat (first | refine blk_drewN ?_ _ | refine blk_drew ?_ | refine blk_alloc ?_ _)); exact BK122.out) hb); have n1_ := Aside0.mk (below_step (by repeat (first | (with_reducible first | exact HB.out | apply below_alloc | apply pw_below_drewN | apply below_drew1 | refine below_set ?_ GE122.out) | exact HB.out)) hb); clear BK122; clear HB; have BK122 := n0_; have HB := n1_; clear n0_ n1_; (try clear hb); (try clear hb2); (try clear hk); (try clear hi); have hcz18_0 : w17.cell? ⟨gb122, 0, none⟩ = some (.int .i64 a0_0) := (blk_cell BK122.out 0).trans rfl; have hcz18_1 : w17.cell? ⟨gb122, 1, none⟩ = some (.int .u8 a0_1) := (blk_cell BK122.out 1).trans rfl; have hcz18_2 : w17.cell? ⟨gb122, 2, none⟩ = some (.int .i64 a0_2) := (blk_cell BK122.out 2).trans rfl; have hcz18_3 : w17.cell? ⟨gb122, 3, none⟩ = some (.int .i64 a0_3) := (blk_cell BK122.out 3).trans rfl; have hfz18_0 := blk_frozen BK122.out 0; have hfz18_1 := blk_frozen BK122.out 1; have hfz18_2 := blk_frozen BK122.out 2; have hfz18_3 := blk_frozen BK122.out 3) | ((with_reducible refine gate_dst (N := 31) rfl ?_); refine Kd.R_lit (Kd.int .u8) _ 5 ?hg (N := 31) ?hd (xs := ([a0_1] : List Int)) (inner := [.int .u8 a0_1]) (ok := fun _ => True) (okp := fun _ => True) ?hr ?hp (fun _ hk => hk) trivial (Below.refl _ _) (Nat.le_refl _) (by simp) ?_; (case hd => rfl); (case hg => rfl); (case hr => first | (go_simp; done) | (go_simp; rfl)); (case hp => exact (Reps.one (show Kd.M (Kd.int .u8) _ _ _ a0_1 [.int .u8 a0_1] from rfl) (Reps.none _ _))); intro v130 w19 ho20 hb hg_ hnew_; clear hg_ hnew_; (first | rw [← Ny129.out] at ho20 | (simp only [Int.reduceToNat] at ho20; rw [← Ny129.out] at ho20)); have n0_ := Aside0.mk (Kd.R_lower ho20 (below_size (by repeat (first | (with_reducible first | exact HB.out | apply below_alloc | apply pw_below_drewN | apply below_drew1 | refine below_set ?_ GE122.out) | exact HB.out)))); have n1_ := Aside0.mk (blk_below (g := gb122) (o := .cells #[.int .i64 a0_0, .int .u8 a0_1, .int .i64 a0_2, .int .i64 a0_3] 43 (0, 0)) (by (with_reducible repeat (first | refine blk_drewN ?_ _ | refine blk_drew ?_ | refine blk_alloc ?_ _)); exact BK122.out) hb); have n2_ := Aside0.mk (below_step (by repeat (first | (with_reducible first | exact HB.out | apply below_alloc | apply pw_below_drewN | apply below_drew1 | refine below_set ?_ GE122.out) | exact HB.out)) hb); clear BK122; clear HB; have HO131 := n0_; have BK122 := n1_; have HB := n2_; clear n0_ n1_ n2_; clear hb ho20; have hcv21 := own_string (P := Tryd.prog) Tryd.underlying82 Tryd.underlying5 Tryd.underlying9 (Kd.own_of_R HO131.out)))
        go_ret
        exact ⟨by first | rfl | (simp [errW_none, errW_some] <;> rfl) | (simp [*, errW_none, errW_some] <;> rfl), by repeat (first | (with_reducible first | exact HB.out | apply below_alloc | apply pw_below_drewN | apply below_drew1 | refine below_set ?_ GE122.out) | exact HB.out)⟩
       ·rw [if_neg c10] at H
        exact absurd H (by simp)
      ·rw [if_neg c9] at H
       exact absurd H (by simp)
     ·rw [if_neg c8] at H
      exact absurd H (by simp)
    ·rw [if_neg c7] at H
     exact absurd H (by simp)
   ·rw [if_neg c6] at H
    exact absurd H (by simp)
  ·rw [if_neg c5] at H
   exact absurd H (by simp)

-- by hand: function 61 (strconv_Atoi)

/-! ### table_number: function 43 -/
def table_number.f (a0 : ByteArray) : Option (Int) := (strconv_Atoi.f a0).bind fun bt132 => (if bt132.2.isNone = true then (some bt132.1) else (some (-1)))
set_option maxHeartbeats 8000000 in
set_option maxRecDepth 100000 in
theorem table_number.calls (a0 : ByteArray) (r : Int) (w : World) (hT : TabH w) (h : table_number.f a0 = some r) :
    Calls Tryd.prog 43 #[.string a0] w fun e w' => e = .returned (.int .i64 r) ∧ Below w.heap.size w w' := by
  have hu72 := Tryd.underlying72
  have HT := Aside0.mk hT
  clear hT
  have HB := Aside0.mk (Below.refl w.heap.size w)
  have H : ((strconv_Atoi.f a0).bind fun bt132 => (if bt132.2.isNone = true then (some bt132.1) else (some (-1)))) = some r := h
  clear h
  replace H := Option.bind_eq_some_iff.mp H
  obtain ⟨⟨t132, t133⟩, A20, H⟩ := H
  replace H : (if t133.isNone = true then (some t132) else (some (-1))) = some r := H
  have A2 := Aside0.mk A20
  clear A20
  rcases t133 with _ | q134
  ·have H1 : (some t132) = some r := by rw [if_pos (show (none : Option Int).isNone = true by rfl)] at H; exact H
   clear H
   have H := H1
   clear H1
   try simp only [errW_none, errW_some]
   obtain rfl := Option.some.inj H
   go_enter Tryd.func43, Tryd.ntmps43
   go_wp2_with (first | ((with_reducible refine gate_callee (f := 61) rfl ?_); refine goesL_ (some 7) rfl rfl Tryd.func61 (by kernel_rfl) rfl #[.string a0] rfl (by (try simp only [List.map_toArray, List.map_cons, List.map_nil]); first | done | rfl | (simp only [List.length_drop, List.length_take]; rfl)) ?_; (with_reducible refine (strconv_Atoi.calls a0 t132 none _ ?side1 A2.out).mono ?_); (case side1 => exact TabH.below HT.out (by repeat (first | (with_reducible first | exact HB.out | apply below_alloc | apply pw_below_drewN | apply below_drew1) | exact HB.out))); rintro e w3 ⟨rfl, hb⟩; refine ⟨_, rfl, ?_⟩; have n0_ := Aside0.mk (below_step (by repeat (first | (with_reducible first | exact HB.out | apply below_alloc | apply pw_below_drewN | apply below_drew1) | exact HB.out)) hb); clear HB; have HB := n0_; clear n0_; (try clear hb); (try clear hb2); (try clear hk); (try clear hi); (try simp only [errW_none, errW_some])))
   go_ret
   exact ⟨by first | rfl | (simp [errW_none, errW_some] <;> rfl) | (simp [*, errW_none, errW_some] <;> rfl), by repeat (first | (with_reducible first | exact HB.out | apply below_alloc | apply pw_below_drewN | apply below_drew1) | exact HB.out)⟩
  ·have H1 : (some (-1)) = some r := by rw [if_neg (show ¬ (some q134).isNone = true by simp)] at H; exact H
   clear H
   have H := H1
   clear H1
   try simp only [errW_none, errW_some]
   obtain rfl := Option.some.inj H
   go_enter Tryd.func43, Tryd.ntmps43
   go_wp2_with (first | ((with_reducible refine gate_callee (f := 61) rfl ?_); refine goesL_ (some 7) rfl rfl Tryd.func61 (by kernel_rfl) rfl #[.string a0] rfl (by (try simp only [List.map_toArray, List.map_cons, List.map_nil]); first | done | rfl | (simp only [List.length_drop, List.length_take]; rfl)) ?_; (with_reducible refine (strconv_Atoi.calls a0 t132 (some q134) _ ?side1 A2.out).mono ?_); (case side1 => exact TabH.below HT.out (by repeat (first | (with_reducible first | exact HB.out | apply below_alloc | apply pw_below_drewN | apply below_drew1) | exact HB.out))); rintro e w4 ⟨rfl, hb⟩; refine ⟨_, rfl, ?_⟩; have n0_ := Aside0.mk (below_step (by repeat (first | (with_reducible first | exact HB.out | apply below_alloc | apply pw_below_drewN | apply below_drew1) | exact HB.out)) hb); clear HB; have HB := n0_; clear n0_; (try clear hb); (try clear hb2); (try clear hk); (try clear hi); (try simp only [errW_none, errW_some])))
   go_ret
   exact ⟨by first | rfl | (simp [errW_none, errW_some] <;> rfl) | (simp [*, errW_none, errW_some] <;> rfl), by repeat (first | (with_reducible first | exact HB.out | apply below_alloc | apply pw_below_drewN | apply below_drew1) | exact HB.out)⟩

end Go.Proofs.YtjheabcffkbfkaaDoor.T
