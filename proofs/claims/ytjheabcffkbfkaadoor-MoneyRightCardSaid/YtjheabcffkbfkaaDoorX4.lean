-- Written by a program of this session (wip/xprint.py) for this claim.
import Derived.Test.YtjheabcffkbfkaaDoorX0
import Derived.Test.YtjheabcffkbfkaaDoorX2
import Derived.Test.YtjheabcffkbfkaaDoorX3
namespace Go.Proofs.YtjheabcffkbfkaaDoor.X
open Go.RowKit Go.Proofs.YtjheabcffkbfkaaDoorW.PrintWords Go.Proofs.YtjheabcffkbfkaaDoorW.PrintLast Go.Proofs.YtjheabcffkbfkaaDoorW.PrintMore
attribute [local go_sem] max2_int min2_int max_two min_two max_three min_three max_four min_four   -- for this text's walks alone
set_option linter.unusedVariables false
set_option linter.unusedSimpArgs false

/-! ### guichetseat_Bank: function 6 -/
mutual
def guichetseat_Bank.l0 : Nat → Int → Int → Int → List (S31) → Int → Int → Option ((List (S31)) × List ByteArray × List Int × Int × Int)
  | 0, _, _, _, _, _, _ => none
  | k + 1, x0, x1, x6, x135000, x135003, x135004 => if x6 < (wrap64 ((wrap64 (Int.tmod x0 3)) + 1)) then ((guichetseat_Cass.f k ((x1 + ((x6) % 256)) % 256)).bind fun bt135 => (guichetseat_Bank.l1 k x0 x1 x6 0 x135000 x135003 x135004 bt135.1 bt135.2.1 bt135.2.2.1 bt135.2.2.2.1 bt135.2.2.2.2.1 bt135.2.2.2.2.2.1 bt135.2.2.2.2.2.2.1 bt135.2.2.2.2.2.2.2.1 bt135.2.2.2.2.2.2.2.2.1 bt135.2.2.2.2.2.2.2.2.2.1 bt135.2.2.2.2.2.2.2.2.2.2.1 bt135.2.2.2.2.2.2.2.2.2.2.2.1 bt135.2.2.2.2.2.2.2.2.2.2.2.2.1 bt135.2.2.2.2.2.2.2.2.2.2.2.2.2.1 bt135.2.2.2.2.2.2.2.2.2.2.2.2.2.2.1 bt135.2.2.2.2.2.2.2.2.2.2.2.2.2.2.2)) else (guichetseat_Bank.l2 k x1 0 x135000 ([] : List ByteArray) ([] : List Int) x135003 x135004)
def guichetseat_Bank.l1 : Nat → Int → Int → Int → Int → List (S31) → Int → Int → Int → Int → Int → Int → Int → Int → Int → Int → Int → Int → Int → Int → Int → Int → Int → Int → Option ((List (S31)) × List ByteArray × List Int × Int × Int)
  | 0, _, _, _, _, _, _, _, _, _, _, _, _, _, _, _, _, _, _, _, _, _, _, _ => none
  | k + 1, x0, x1, x6, x8, x135000, x135003, x135004, x152000, x152001, x152002, x152003, x152004, x152005, x152006, x152007, x152008, x152009, x152010, x152011, x152012, x152013, x152014, x152015 => if x8 < 4 then (if x8 = 0 then (if x8 = 0 then (guichetseat_Bank.l1 k x0 x1 x6 (wrap64 (x8 + 1)) x135000 x135003 x135004 x152000 (mx x152001 9) x152002 x152003 x152004 x152005 x152006 x152007 x152008 x152009 x152010 x152011 x152012 x152013 x152014 x152015) else (if x8 = 1 then (guichetseat_Bank.l1 k x0 x1 x6 (wrap64 (x8 + 1)) x135000 x135003 x135004 x152000 x152001 x152002 x152003 x152004 (mx x152001 9) x152006 x152007 x152008 x152009 x152010 x152011 x152012 x152013 x152014 x152015) else (if x8 = 2 then (guichetseat_Bank.l1 k x0 x1 x6 (wrap64 (x8 + 1)) x135000 x135003 x135004 x152000 x152001 x152002 x152003 x152004 x152005 x152006 x152007 x152008 (mx x152001 9) x152010 x152011 x152012 x152013 x152014 x152015) else (if x8 = 3 then (guichetseat_Bank.l1 k x0 x1 x6 (wrap64 (x8 + 1)) x135000 x135003 x135004 x152000 x152001 x152002 x152003 x152004 x152005 x152006 x152007 x152008 x152009 x152010 x152011 x152012 (mx x152001 9) x152014 x152015) else (none))))) else (if x8 = 1 then (if x8 = 0 then (guichetseat_Bank.l1 k x0 x1 x6 (wrap64 (x8 + 1)) x135000 x135003 x135004 x152000 (mx x152005 9) x152002 x152003 x152004 x152005 x152006 x152007 x152008 x152009 x152010 x152011 x152012 x152013 x152014 x152015) else (if x8 = 1 then (guichetseat_Bank.l1 k x0 x1 x6 (wrap64 (x8 + 1)) x135000 x135003 x135004 x152000 x152001 x152002 x152003 x152004 (mx x152005 9) x152006 x152007 x152008 x152009 x152010 x152011 x152012 x152013 x152014 x152015) else (if x8 = 2 then (guichetseat_Bank.l1 k x0 x1 x6 (wrap64 (x8 + 1)) x135000 x135003 x135004 x152000 x152001 x152002 x152003 x152004 x152005 x152006 x152007 x152008 (mx x152005 9) x152010 x152011 x152012 x152013 x152014 x152015) else (if x8 = 3 then (guichetseat_Bank.l1 k x0 x1 x6 (wrap64 (x8 + 1)) x135000 x135003 x135004 x152000 x152001 x152002 x152003 x152004 x152005 x152006 x152007 x152008 x152009 x152010 x152011 x152012 (mx x152005 9) x152014 x152015) else (none))))) else (if x8 = 2 then (if x8 = 0 then (guichetseat_Bank.l1 k x0 x1 x6 (wrap64 (x8 + 1)) x135000 x135003 x135004 x152000 (mx x152009 9) x152002 x152003 x152004 x152005 x152006 x152007 x152008 x152009 x152010 x152011 x152012 x152013 x152014 x152015) else (if x8 = 1 then (guichetseat_Bank.l1 k x0 x1 x6 (wrap64 (x8 + 1)) x135000 x135003 x135004 x152000 x152001 x152002 x152003 x152004 (mx x152009 9) x152006 x152007 x152008 x152009 x152010 x152011 x152012 x152013 x152014 x152015) else (if x8 = 2 then (guichetseat_Bank.l1 k x0 x1 x6 (wrap64 (x8 + 1)) x135000 x135003 x135004 x152000 x152001 x152002 x152003 x152004 x152005 x152006 x152007 x152008 (mx x152009 9) x152010 x152011 x152012 x152013 x152014 x152015) else (if x8 = 3 then (guichetseat_Bank.l1 k x0 x1 x6 (wrap64 (x8 + 1)) x135000 x135003 x135004 x152000 x152001 x152002 x152003 x152004 x152005 x152006 x152007 x152008 x152009 x152010 x152011 x152012 (mx x152009 9) x152014 x152015) else (none))))) else (if x8 = 3 then (if x8 = 0 then (guichetseat_Bank.l1 k x0 x1 x6 (wrap64 (x8 + 1)) x135000 x135003 x135004 x152000 (mx x152013 9) x152002 x152003 x152004 x152005 x152006 x152007 x152008 x152009 x152010 x152011 x152012 x152013 x152014 x152015) else (if x8 = 1 then (guichetseat_Bank.l1 k x0 x1 x6 (wrap64 (x8 + 1)) x135000 x135003 x135004 x152000 x152001 x152002 x152003 x152004 (mx x152013 9) x152006 x152007 x152008 x152009 x152010 x152011 x152012 x152013 x152014 x152015) else (if x8 = 2 then (guichetseat_Bank.l1 k x0 x1 x6 (wrap64 (x8 + 1)) x135000 x135003 x135004 x152000 x152001 x152002 x152003 x152004 x152005 x152006 x152007 x152008 (mx x152013 9) x152010 x152011 x152012 x152013 x152014 x152015) else (if x8 = 3 then (guichetseat_Bank.l1 k x0 x1 x6 (wrap64 (x8 + 1)) x135000 x135003 x135004 x152000 x152001 x152002 x152003 x152004 x152005 x152006 x152007 x152008 x152009 x152010 x152011 x152012 (mx x152013 9) x152014 x152015) else (none))))) else (none))))) else (if x135000.length < 1099511627776 then (guichetseat_Bank.l0 k x0 x1 (wrap64 (x6 + 1)) (x135000 ++ [(⟨(⟨x152000, x152001, x152002, x152003⟩ : S30), (⟨x152004, x152005, x152006, x152007⟩ : S30), (⟨x152008, x152009, x152010, x152011⟩ : S30), (⟨x152012, x152013, x152014, x152015⟩ : S30)⟩ : S31)]) x135003 x135004) else (none))
def guichetseat_Bank.l2 : Nat → Int → Int → List (S31) → List ByteArray → List Int → Int → Int → Option ((List (S31)) × List ByteArray × List Int × Int × Int)
  | 0, _, _, _, _, _, _, _ => none
  | k + 1, x1, x9, x135000, x135001, x135002, x135003, x135004 => if x9 < 4 then ((guichetseat_Pan.f x9).bind fun t155 => (if x135001.length < 8796093022208 then (if x135002.length < 17592186044416 then (guichetseat_Bank.l2 k x1 ((x9 + 1) % 256) x135000 (x135001 ++ [t155]) (x135002 ++ [wrap64 ((wrap64 ((wrap64 (x9)) * 20000)) + (wrap64 ((wrap64 (x1)) * 100)))]) x135003 x135004) else (none)) else (none))) else (some (x135000, x135001, x135002, x135003, x135004))
end
def guichetseat_Bank.f (k : Nat) (a0 : Int) (a1 : Int) : Option ((List (S31)) × List ByteArray × List Int × Int × Int) := guichetseat_Bank.l0 k a0 a1 0 ([] : List (S31)) 500 100000
theorem guichetseat_Bank.mono_l : ∀ k, (∀ y0 y1 y2 y3 y4 y5, LeO (guichetseat_Bank.l0 k y0 y1 y2 y3 y4 y5) (guichetseat_Bank.l0 (k + 1) y0 y1 y2 y3 y4 y5)) ∧ (∀ y0 y1 y2 y3 y4 y5 y6 y7 y8 y9 y10 y11 y12 y13 y14 y15 y16 y17 y18 y19 y20 y21 y22, LeO (guichetseat_Bank.l1 k y0 y1 y2 y3 y4 y5 y6 y7 y8 y9 y10 y11 y12 y13 y14 y15 y16 y17 y18 y19 y20 y21 y22) (guichetseat_Bank.l1 (k + 1) y0 y1 y2 y3 y4 y5 y6 y7 y8 y9 y10 y11 y12 y13 y14 y15 y16 y17 y18 y19 y20 y21 y22)) ∧ (∀ y0 y1 y2 y3 y4 y5 y6, LeO (guichetseat_Bank.l2 k y0 y1 y2 y3 y4 y5 y6) (guichetseat_Bank.l2 (k + 1) y0 y1 y2 y3 y4 y5 y6))
  | 0 => ⟨fun _ _ _ _ _ _ r h => by simp [guichetseat_Bank.l0] at h, fun _ _ _ _ _ _ _ _ _ _ _ _ _ _ _ _ _ _ _ _ _ _ _ r h => by simp [guichetseat_Bank.l1] at h, fun _ _ _ _ _ _ _ r h => by simp [guichetseat_Bank.l2] at h⟩
  | k + 1 => by
    obtain ⟨ih0, ih1, ih2⟩ := guichetseat_Bank.mono_l k
    refine ⟨?_, ?_, ?_⟩
    · intro y0 y1 y2 y3 y4 y5
      unfold guichetseat_Bank.l0
      repeat' first
      | (with_reducible exact ih0 _ _ _ _ _ _)
      | (with_reducible exact ih1 _ _ _ _ _ _ _ _ _ _ _ _ _ _ _ _ _ _ _ _ _ _ _)
      | (with_reducible exact ih2 _ _ _ _ _ _ _)
      | (with_reducible exact guichetseat_Cass.mono _ _)
      | (with_reducible exact LeO.refl _)
      | (with_reducible exact LeO.none _)
      | (with_reducible refine LeO.ite ?_ ?_)
      | (with_reducible refine LeO.bind ?_ (fun _ => ?_))
      | exact ih0 _ _ _ _ _ _
      | exact ih1 _ _ _ _ _ _ _ _ _ _ _ _ _ _ _ _ _ _ _ _ _ _ _
      | exact ih2 _ _ _ _ _ _ _
      | exact guichetseat_Cass.mono _ _
      | exact LeO.none _
      | refine LeO.ite ?_ ?_
      | refine LeO.bind ?_ (fun _ => ?_)
    · intro y0 y1 y2 y3 y4 y5 y6 y7 y8 y9 y10 y11 y12 y13 y14 y15 y16 y17 y18 y19 y20 y21 y22
      unfold guichetseat_Bank.l1
      repeat' first
      | (with_reducible exact ih0 _ _ _ _ _ _)
      | (with_reducible exact ih1 _ _ _ _ _ _ _ _ _ _ _ _ _ _ _ _ _ _ _ _ _ _ _)
      | (with_reducible exact ih2 _ _ _ _ _ _ _)
      | (with_reducible exact guichetseat_Cass.mono _ _)
      | (with_reducible exact LeO.refl _)
      | (with_reducible exact LeO.none _)
      | (with_reducible refine LeO.ite ?_ ?_)
      | (with_reducible refine LeO.bind ?_ (fun _ => ?_))
      | exact ih0 _ _ _ _ _ _
      | exact ih1 _ _ _ _ _ _ _ _ _ _ _ _ _ _ _ _ _ _ _ _ _ _ _
      | exact ih2 _ _ _ _ _ _ _
      | exact guichetseat_Cass.mono _ _
      | exact LeO.none _
      | refine LeO.ite ?_ ?_
      | refine LeO.bind ?_ (fun _ => ?_)
    · intro y0 y1 y2 y3 y4 y5 y6
      unfold guichetseat_Bank.l2
      repeat' first
      | (with_reducible exact ih0 _ _ _ _ _ _)
      | (with_reducible exact ih1 _ _ _ _ _ _ _ _ _ _ _ _ _ _ _ _ _ _ _ _ _ _ _)
      | (with_reducible exact ih2 _ _ _ _ _ _ _)
      | (with_reducible exact guichetseat_Cass.mono _ _)
      | (with_reducible exact LeO.refl _)
      | (with_reducible exact LeO.none _)
      | (with_reducible refine LeO.ite ?_ ?_)
      | (with_reducible refine LeO.bind ?_ (fun _ => ?_))
      | exact ih0 _ _ _ _ _ _
      | exact ih1 _ _ _ _ _ _ _ _ _ _ _ _ _ _ _ _ _ _ _ _ _ _ _
      | exact ih2 _ _ _ _ _ _ _
      | exact guichetseat_Cass.mono _ _
      | exact LeO.none _
      | refine LeO.ite ?_ ?_
      | refine LeO.bind ?_ (fun _ => ?_)
theorem guichetseat_Bank.mono : ∀ a0 a1 k, LeO (guichetseat_Bank.f k a0 a1) (guichetseat_Bank.f (k + 1) a0 a1) := by
  intro a0 a1 k
  obtain ⟨ih0, ih1, ih2⟩ := guichetseat_Bank.mono_l k
  unfold guichetseat_Bank.f
  repeat' first
      | (with_reducible exact ih0 _ _ _ _ _ _)
      | (with_reducible exact ih1 _ _ _ _ _ _ _ _ _ _ _ _ _ _ _ _ _ _ _ _ _ _ _)
      | (with_reducible exact ih2 _ _ _ _ _ _ _)
      | (with_reducible exact guichetseat_Cass.mono _ _)
      | (with_reducible exact LeO.refl _)
      | (with_reducible exact LeO.none _)
      | (with_reducible refine LeO.ite ?_ ?_)
      | (with_reducible refine LeO.bind ?_ (fun _ => ?_))
      | exact ih0 _ _ _ _ _ _
      | exact ih1 _ _ _ _ _ _ _ _ _ _ _ _ _ _ _ _ _ _ _ _ _ _ _
      | exact ih2 _ _ _ _ _ _ _
      | exact guichetseat_Cass.mono _ _
      | exact LeO.none _
      | refine LeO.ite ?_ ?_
      | refine LeO.bind ?_ (fun _ => ?_)
def guichetseat_Bank.T14 : Bool × List (List Nat × List Nat) := (true, [([], []), ([0], [0]), ([], []), ([2], [2]), ([3], [3]), ([1, 4, 3], [1, 4]), ([0, 1, 2, 3, 4, 5], []), ([6, 5, 5, 0, 1, 2, 3, 4, 5], [5, 6])])
def guichetseat_Bank.B14 : List Nat := [0, 1, 0, 4, 12, 31, 63, 127]
theorem guichetseat_Bank.tab14 : rtab .any (opsOf Tryd.f6 14) = guichetseat_Bank.T14 := by kernel_rfl
theorem guichetseat_Bank.bits14 : waitsOk guichetseat_Bank.T14.2 guichetseat_Bank.B14 = true := by kernel_rfl
set_option maxHeartbeats 8000000 in
set_option maxRecDepth 100000 in
theorem guichetseat_Bank.calls (k : Nat) (a0 : Int) (a1 : Int) (r1 : List (S31)) (r2 : List ByteArray) (r3 : List Int) (r4 : Int) (r5 : Int) (w : World) (h : guichetseat_Bank.f k a0 a1 = some (r1, r2, r3, r4, r5)) :
    Calls Tryd.prog 6 #[.int .u8 a0, .int .u8 a1] w fun e w' => ∃ v0_ v1_ v2_ : Value, e = .returned (.agg #[v0_, v1_, v2_, .int .i64 r4, .int .i64 r5]) ∧ Kd.R k31 31 w' w.heap.size (fun _ => True) v0_ r1 ∧ Kd.R Kd.string 9 w' w.heap.size (fun _ => True) v1_ r2 ∧ Kd.R (Kd.int .i64) 2 w' w.heap.size (fun _ => True) v2_ r3 ∧ Below w.heap.size w w' := by
  have hu26 := Tryd.underlying26
  have hu31 := Tryd.underlying31
  have hu30 := Tryd.underlying30
  have HB := Aside0.mk (Below.refl w.heap.size w)
  have H : (guichetseat_Bank.l0 k a0 a1 0 ([] : List (S31)) 500 100000) = some (r1, r2, r3, r4, r5) := h
  clear h
  have H' := Aside0.mk H
  clear H
  go_enter Tryd.func6, Tryd.ntmps6
  go_wp2_with (first | ((with_reducible refine gate_dst (N := 4) rfl ?_); refine box_event ?hg (N := 4) ?hd (cs := #[.slice none 0 0, .slice none 0 0, .slice none 0 0, .int .i64 0, .int .i64 0]) (t := 26) ?hr ?_; (case hd => rfl); (case hg => rfl); (case hr => first | (go_simp; done) | (go_simp; rfl)); intro gb133 hg w3 hbox hb; have n0_ := Aside0.mk (below_step (by repeat (first | (with_reducible first | exact HB.out | apply below_alloc | apply pw_below_drewN | apply below_drew1) | exact HB.out)) hb); have n1_ := Aside0.mk (hbox); have n2_ := Aside0.mk ((by rw [hg]; exact (below_size (by repeat (first | (with_reducible first | exact HB.out | apply below_alloc | apply pw_below_drewN | apply below_drew1) | exact HB.out))) : w.heap.size ≤ gb133)); have n3_ := Aside0.mk ((by rw [hg]; exact (below_size (by repeat (first | (with_reducible first | exact HB.out | apply below_alloc | apply pw_below_drewN | apply below_drew1) | exact HB.out))) : w.heap.size ≤ gb133)); clear HB; have HB := n0_; have BK133 := n1_; have GW133 := n2_; have GE133 := n3_; clear n0_ n1_ n2_ n3_; clear hb hbox hg) | ((with_reducible refine gate_dst (N := 5) rfl ?_); refine box_event ?hg (N := 5) ?hd (cs := #[.slice none 0 0, .slice none 0 0, .slice none 0 0, .int .i64 0, .int .i64 0]) (t := 26) ?hr ?_; (case hd => rfl); (case hg => rfl); (case hr => first | (go_simp; done) | (go_simp; rfl)); intro gb134 hg w4 hbox hb; have n0_ := Aside0.mk (blk_below (g := gb133) (o := .cells #[.slice none 0 0, .slice none 0 0, .slice none 0 0, .int .i64 0, .int .i64 0] 26 (0, 0)) (by (with_reducible repeat (first | refine blk_drewN ?_ _ | refine blk_drew ?_ | refine blk_alloc ?_ _)); exact BK133.out) hb); have n1_ := Aside0.mk (below_step (by repeat (first | (with_reducible first | exact HB.out | apply below_alloc | apply pw_below_drewN | apply below_drew1 | refine below_set ?_ GE133.out) | exact HB.out)) hb); have n2_ := Aside0.mk (hbox); have n3_ := Aside0.mk ((by rw [hg]; exact (below_size (by repeat (first | (with_reducible first | exact HB.out | apply below_alloc | apply pw_below_drewN | apply below_drew1 | refine below_set ?_ GE133.out) | exact HB.out))) : w.heap.size ≤ gb134)); have n4_ := Aside0.mk ((by rw [hg]; exact (below_size (by repeat (first | (with_reducible first | exact HB.out | apply below_alloc | apply pw_below_drewN | apply below_drew1 | refine below_set ?_ GE133.out) | exact HB.out))) : w.heap.size ≤ gb134)); have n5_ := Aside0.mk ((by rw [hg]; exact Nat.ne_of_lt (blk_lt (g := gb133) (o := .cells #[.slice none 0 0, .slice none 0 0, .slice none 0 0, .int .i64 0, .int .i64 0] 26 (0, 0)) (by (with_reducible repeat (first | refine blk_drewN ?_ _ | refine blk_drew ?_ | refine blk_alloc ?_ _)); exact BK133.out)) : gb133 ≠ gb134)); have n6_ := Aside0.mk ((by rw [hg]; exact Nat.ne_of_gt (blk_lt (g := gb133) (o := .cells #[.slice none 0 0, .slice none 0 0, .slice none 0 0, .int .i64 0, .int .i64 0] 26 (0, 0)) (by (with_reducible repeat (first | refine blk_drewN ?_ _ | refine blk_drew ?_ | refine blk_alloc ?_ _)); exact BK133.out)) : gb134 ≠ gb133)); clear BK133; clear HB; have BK133 := n0_; have HB := n1_; have BK134 := n2_; have GW134 := n3_; have GE134 := n4_; have NB133_134 := n5_; have NB134_133 := n6_; clear n0_ n1_ n2_ n3_ n4_ n5_ n6_; clear hb hbox hg; have hnb5 := NB134_133.out; have hnc5 := NB133_134.out; have hcz6_0 : w4.cell? ⟨gb134, 0, none⟩ = some (.slice none 0 0) := (blk_cell BK134.out 0).trans rfl; have hcz6_1 : w4.cell? ⟨gb134, 1, none⟩ = some (.slice none 0 0) := (blk_cell BK134.out 1).trans rfl; have hcz6_2 : w4.cell? ⟨gb134, 2, none⟩ = some (.slice none 0 0) := (blk_cell BK134.out 2).trans rfl; have hcz6_3 : w4.cell? ⟨gb134, 3, none⟩ = some (.int .i64 0) := (blk_cell BK134.out 3).trans rfl; have hcz6_4 : w4.cell? ⟨gb134, 4, none⟩ = some (.int .i64 0) := (blk_cell BK134.out 4).trans rfl; have hfz6_0 := blk_frozen BK134.out 0; have hfz6_1 := blk_frozen BK134.out 1; have hfz6_2 := blk_frozen BK134.out 2; have hfz6_3 := blk_frozen BK134.out 3; have hfz6_4 := blk_frozen BK134.out 4))
  go_loopg [6] k (fun kq v6 w' => ∃ (x6_1 : Int) (x135000_1 : List (S31)) (u135000 : Value), v6 = .int .i64 x6_1 ∧ Aside0 (guichetseat_Bank.l0 kq a0 a1 x6_1 x135000_1 500 100000 = some (r1, r2, r3, r4, r5)) ∧ Aside0 (kq ≤ k) ∧ Aside0 (Kd.R k31 31 w' w.heap.size (fun _ => True) u135000 x135000_1) ∧ Aside0 (w'.heap[gb133]? = some (.cells #[(.slice none 0 0), (.slice none 0 0), (.slice none 0 0), .int .i64 0, .int .i64 0] 26 (0, 0))) ∧ Aside0 (w'.heap[gb134]? = some (.cells #[u135000, (.slice none 0 0), (.slice none 0 0), .int .i64 500, .int .i64 100000] 26 (0, 0))) ∧ Aside0 (Below w.heap.size w w'))
  case atStart => exact ⟨(0), (([] : List (S31))), (.slice none 0 0), (by first | rfl | (simp; done) | (simp [*]; done) | (congr 1; unfold wrap64; omega)), H', ⟨Nat.le_refl _⟩, ⟨by first | exact Kd.R_nil _ _ _ _ _ | exact Kd.N_nil _ _ _ _ _ | exact Kd.V_nil _ _ _ _ _ | exact Kd.Q_nil _ _ _ _ _ | exact Kd.S_nil _ _ _ _ _⟩, ⟨by (with_reducible repeat (first | refine blk_drewN ?_ _ | refine blk_drew ?_ | refine blk_alloc ?_ _)); refine blk_far ?_ NB133_134.out _; (with_reducible repeat (first | refine blk_drewN ?_ _ | refine blk_drew ?_ | refine blk_alloc ?_ _)); refine blk_far ?_ NB133_134.out _; (with_reducible repeat (first | refine blk_drewN ?_ _ | refine blk_drew ?_ | refine blk_alloc ?_ _)); refine blk_far ?_ NB133_134.out _; (with_reducible repeat (first | refine blk_drewN ?_ _ | refine blk_drew ?_ | refine blk_alloc ?_ _)); refine blk_far ?_ NB133_134.out _; (with_reducible repeat (first | refine blk_drewN ?_ _ | refine blk_drew ?_ | refine blk_alloc ?_ _)); refine blk_far ?_ NB133_134.out _; (with_reducible repeat (first | refine blk_drewN ?_ _ | refine blk_drew ?_ | refine blk_alloc ?_ _)); exact BK133.out⟩, ⟨by (with_reducible repeat (first | refine blk_drewN ?_ _ | refine blk_drew ?_ | refine blk_alloc ?_ _)); refine blk_put (cs := #[.slice none 0 0, .slice none 0 0, .slice none 0 0, .int .i64 500, .int .i64 0]) ?_ 4 _ rfl; (with_reducible repeat (first | refine blk_drewN ?_ _ | refine blk_drew ?_ | refine blk_alloc ?_ _)); refine blk_put (cs := #[.slice none 0 0, .slice none 0 0, .slice none 0 0, .int .i64 0, .int .i64 0]) ?_ 3 _ rfl; (with_reducible repeat (first | refine blk_drewN ?_ _ | refine blk_drew ?_ | refine blk_alloc ?_ _)); refine blk_put (cs := #[.slice none 0 0, .slice none 0 0, .slice none 0 0, .int .i64 0, .int .i64 0]) ?_ 2 _ rfl; (with_reducible repeat (first | refine blk_drewN ?_ _ | refine blk_drew ?_ | refine blk_alloc ?_ _)); refine blk_put (cs := #[.slice none 0 0, .slice none 0 0, .slice none 0 0, .int .i64 0, .int .i64 0]) ?_ 1 _ rfl; (with_reducible repeat (first | refine blk_drewN ?_ _ | refine blk_drew ?_ | refine blk_alloc ?_ _)); refine blk_put (cs := #[.slice none 0 0, .slice none 0 0, .slice none 0 0, .int .i64 0, .int .i64 0]) ?_ 0 _ rfl; (with_reducible repeat (first | refine blk_drewN ?_ _ | refine blk_drew ?_ | refine blk_alloc ?_ _)); exact BK134.out⟩, ⟨by repeat (first | (with_reducible first | exact HB.out | apply below_alloc | apply pw_below_drewN | apply below_drew1 | refine below_set ?_ GE133.out | refine below_set ?_ GE134.out) | exact HB.out)⟩⟩
  case round =>
   clear H'
   try clear p2
   try clear c5
   try clear c6
   try clear hcz6_0
   try clear hcz6_1
   try clear hcz6_2
   try clear hcz6_3
   try clear hcz6_4
   try clear hfz6_0
   try clear hfz6_1
   try clear hfz6_2
   try clear hfz6_3
   try clear hfz6_4
   obtain ⟨x6_1, x135000_1, u135000, rfl, HA, HK1, HO_135000, BK133, BK134, HB⟩ := hrel
   cases gk with
   | zero => exact absurd HA.out (by simp [guichetseat_Bank.l0])
   | succ k1 =>
    have H := HA.out
    clear HA
    simp only [guichetseat_Bank.l0] at H
    by_cases c7 : x6_1 < (wrap64 ((wrap64 (Int.tmod a0 3)) + 1))
    ·rw [if_pos c7] at H
     have c7b0 : decide (x6_1 < (wrap64 ((wrap64 (Int.tmod a0 3)) + 1))) = true := decide_eq_true c7
     clear c7
     replace H := Option.bind_eq_some_iff.mp H
     obtain ⟨⟨t135, t136, t137, t138, t139, t140, t141, t142, t143, t144, t145, t146, t147, t148, t149, t150⟩, A80, H⟩ := H
     replace H : (guichetseat_Bank.l1 k1 a0 a1 x6_1 0 x135000_1 500 100000 t135 t136 t137 t138 t139 t140 t141 t142 t143 t144 t145 t146 t147 t148 t149 t150) = some (r1, r2, r3, r4, r5) := H
     have A8 := Aside0.mk A80
     clear A80
     have H' := Aside0.mk H
     clear H
     go_wp2_with (first | ((with_reducible refine gate_callee (f := 16) rfl ?_); refine goesL_ (some 23) rfl rfl Tryd.func16 (by kernel_rfl) rfl #[.int .u8 ((a1 + ((x6_1) % 256)) % 256)] rfl (by (try simp only [List.map_toArray, List.map_cons, List.map_nil]); first | done | rfl | (simp only [List.length_drop, List.length_take]; rfl)) ?_; (with_reducible refine (guichetseat_Cass.calls k1 ((a1 + ((x6_1) % 256)) % 256) t135 t136 t137 t138 t139 t140 t141 t142 t143 t144 t145 t146 t147 t148 t149 t150 _ A8.out).mono ?_); rintro e w9 ⟨rfl, hb⟩; refine ⟨_, rfl, ?_⟩; have n0_ := Aside0.mk (Kd.R_below (by (with_reducible repeat (first | apply Kd.R_alloc | apply Kd.R_drewN | apply Kd.R_drew)); exact HO_135000.out) hb); have n1_ := Aside0.mk (blk_below (g := gb133) (o := .cells #[.slice none 0 0, .slice none 0 0, .slice none 0 0, .int .i64 0, .int .i64 0] 26 (0, 0)) (by (with_reducible repeat (first | refine blk_drewN ?_ _ | refine blk_drew ?_ | refine blk_alloc ?_ _)); exact BK133.out) hb); have n2_ := Aside0.mk (blk_below (g := gb134) (o := .cells #[u135000, .slice none 0 0, .slice none 0 0, .int .i64 500, .int .i64 100000] 26 (0, 0)) (by (with_reducible repeat (first | refine blk_drewN ?_ _ | refine blk_drew ?_ | refine blk_alloc ?_ _)); exact BK134.out) hb); have n3_ := Aside0.mk (below_step (by repeat (first | (with_reducible first | exact HB.out | apply below_alloc | apply pw_below_drewN | apply below_drew1 | refine below_set ?_ GE133.out | refine below_set ?_ GE134.out) | exact HB.out)) hb); clear HO_135000; clear BK133; clear BK134; clear HB; have HO_135000 := n0_; have BK133 := n1_; have BK134 := n2_; have HB := n3_; clear n0_ n1_ n2_ n3_; (try clear hb); (try clear hb2); (try clear hk); (try clear hi)) | ((with_reducible refine gate_dst (N := 7) rfl ?_); refine box_event ?hg (N := 7) ?hd (cs := #[.int .i64 0, .int .i64 0, .int .i64 0, .int .i64 0, .int .i64 0, .int .i64 0, .int .i64 0, .int .i64 0, .int .i64 0, .int .i64 0, .int .i64 0, .int .i64 0, .int .i64 0, .int .i64 0, .int .i64 0, .int .i64 0]) (t := 31) ?hr ?_; (case hd => rfl); (case hg => rfl); (case hr => first | (go_simp; done) | (go_simp; rfl)); intro gb151 hg w10 hbox hb; have n0_ := Aside0.mk (Kd.R_below (Kd.R_elderB (by (with_reducible repeat (first | apply Kd.R_alloc | apply Kd.R_drewN | apply Kd.R_drew)); exact HO_135000.out) gb151 (Nat.le_of_eq hg.symm)) hb); have n1_ := Aside0.mk (blk_below (g := gb133) (o := .cells #[.slice none 0 0, .slice none 0 0, .slice none 0 0, .int .i64 0, .int .i64 0] 26 (0, 0)) (by (with_reducible repeat (first | refine blk_drewN ?_ _ | refine blk_drew ?_ | refine blk_alloc ?_ _)); exact BK133.out) hb); have n2_ := Aside0.mk (blk_below (g := gb134) (o := .cells #[u135000, .slice none 0 0, .slice none 0 0, .int .i64 500, .int .i64 100000] 26 (0, 0)) (by (with_reducible repeat (first | refine blk_drewN ?_ _ | refine blk_drew ?_ | refine blk_alloc ?_ _)); exact BK134.out) hb); have n3_ := Aside0.mk (below_step (by repeat (first | (with_reducible first | exact HB.out | apply below_alloc | apply pw_below_drewN | apply below_drew1 | refine below_set ?_ GE133.out | refine below_set ?_ GE134.out) | exact HB.out)) hb); have n4_ := Aside0.mk (hbox); have n5_ := Aside0.mk ((by rw [hg]; exact (below_size (by repeat (first | (with_reducible first | exact HB.out | apply below_alloc | apply pw_below_drewN | apply below_drew1 | refine below_set ?_ GE133.out | refine below_set ?_ GE134.out) | exact HB.out))) : w.heap.size ≤ gb151)); have n6_ := Aside0.mk ((by rw [hg]; exact (below_size (by repeat (first | (with_reducible first | exact HB.out | apply below_alloc | apply pw_below_drewN | apply below_drew1 | refine below_set ?_ GE133.out | refine below_set ?_ GE134.out) | exact HB.out))) : w.heap.size ≤ gb151)); have n7_ := Aside0.mk ((by rw [hg]; exact Nat.ne_of_lt (blk_lt (g := gb133) (o := .cells #[.slice none 0 0, .slice none 0 0, .slice none 0 0, .int .i64 0, .int .i64 0] 26 (0, 0)) (by (with_reducible repeat (first | refine blk_drewN ?_ _ | refine blk_drew ?_ | refine blk_alloc ?_ _)); exact BK133.out)) : gb133 ≠ gb151)); have n8_ := Aside0.mk ((by rw [hg]; exact Nat.ne_of_gt (blk_lt (g := gb133) (o := .cells #[.slice none 0 0, .slice none 0 0, .slice none 0 0, .int .i64 0, .int .i64 0] 26 (0, 0)) (by (with_reducible repeat (first | refine blk_drewN ?_ _ | refine blk_drew ?_ | refine blk_alloc ?_ _)); exact BK133.out)) : gb151 ≠ gb133)); have n9_ := Aside0.mk ((by rw [hg]; exact Nat.ne_of_lt (blk_lt (g := gb134) (o := .cells #[u135000, .slice none 0 0, .slice none 0 0, .int .i64 500, .int .i64 100000] 26 (0, 0)) (by (with_reducible repeat (first | refine blk_drewN ?_ _ | refine blk_drew ?_ | refine blk_alloc ?_ _)); exact BK134.out)) : gb134 ≠ gb151)); have n10_ := Aside0.mk ((by rw [hg]; exact Nat.ne_of_gt (blk_lt (g := gb134) (o := .cells #[u135000, .slice none 0 0, .slice none 0 0, .int .i64 500, .int .i64 100000] 26 (0, 0)) (by (with_reducible repeat (first | refine blk_drewN ?_ _ | refine blk_drew ?_ | refine blk_alloc ?_ _)); exact BK134.out)) : gb151 ≠ gb134)); clear HO_135000; clear BK133; clear BK134; clear HB; have HO_135000 := n0_; have BK133 := n1_; have BK134 := n2_; have HB := n3_; have BK151 := n4_; have GW151 := n5_; have GE151 := n6_; have NB133_151 := n7_; have NB151_133 := n8_; have NB134_151 := n9_; have NB151_134 := n10_; clear n0_ n1_ n2_ n3_ n4_ n5_ n6_ n7_ n8_ n9_ n10_; clear hb hbox hg; have hnb11 := NB151_133.out; have hnc11 := NB133_151.out; have hnb12 := NB151_134.out; have hnc12 := NB134_151.out; have hcz13_0 : w10.cell? ⟨gb151, 0, none⟩ = some (.int .i64 0) := (blk_cell BK151.out 0).trans rfl; have hcz13_1 : w10.cell? ⟨gb151, 1, none⟩ = some (.int .i64 0) := (blk_cell BK151.out 1).trans rfl; have hcz13_2 : w10.cell? ⟨gb151, 2, none⟩ = some (.int .i64 0) := (blk_cell BK151.out 2).trans rfl; have hcz13_3 : w10.cell? ⟨gb151, 3, none⟩ = some (.int .i64 0) := (blk_cell BK151.out 3).trans rfl; have hcz13_4 : w10.cell? ⟨gb151, 4, none⟩ = some (.int .i64 0) := (blk_cell BK151.out 4).trans rfl; have hcz13_5 : w10.cell? ⟨gb151, 5, none⟩ = some (.int .i64 0) := (blk_cell BK151.out 5).trans rfl; have hcz13_6 : w10.cell? ⟨gb151, 6, none⟩ = some (.int .i64 0) := (blk_cell BK151.out 6).trans rfl; have hcz13_7 : w10.cell? ⟨gb151, 7, none⟩ = some (.int .i64 0) := (blk_cell BK151.out 7).trans rfl; have hcz13_8 : w10.cell? ⟨gb151, 8, none⟩ = some (.int .i64 0) := (blk_cell BK151.out 8).trans rfl; have hcz13_9 : w10.cell? ⟨gb151, 9, none⟩ = some (.int .i64 0) := (blk_cell BK151.out 9).trans rfl; have hcz13_10 : w10.cell? ⟨gb151, 10, none⟩ = some (.int .i64 0) := (blk_cell BK151.out 10).trans rfl; have hcz13_11 : w10.cell? ⟨gb151, 11, none⟩ = some (.int .i64 0) := (blk_cell BK151.out 11).trans rfl; have hcz13_12 : w10.cell? ⟨gb151, 12, none⟩ = some (.int .i64 0) := (blk_cell BK151.out 12).trans rfl; have hcz13_13 : w10.cell? ⟨gb151, 13, none⟩ = some (.int .i64 0) := (blk_cell BK151.out 13).trans rfl; have hcz13_14 : w10.cell? ⟨gb151, 14, none⟩ = some (.int .i64 0) := (blk_cell BK151.out 14).trans rfl; have hcz13_15 : w10.cell? ⟨gb151, 15, none⟩ = some (.int .i64 0) := (blk_cell BK151.out 15).trans rfl; have hfz13_0 := blk_frozen BK151.out 0; have hfz13_1 := blk_frozen BK151.out 1; have hfz13_2 := blk_frozen BK151.out 2; have hfz13_3 := blk_frozen BK151.out 3; have hfz13_4 := blk_frozen BK151.out 4; have hfz13_5 := blk_frozen BK151.out 5; have hfz13_6 := blk_frozen BK151.out 6; have hfz13_7 := blk_frozen BK151.out 7; have hfz13_8 := blk_frozen BK151.out 8; have hfz13_9 := blk_frozen BK151.out 9; have hfz13_10 := blk_frozen BK151.out 10; have hfz13_11 := blk_frozen BK151.out 11; have hfz13_12 := blk_frozen BK151.out 12; have hfz13_13 := blk_frozen BK151.out 13; have hfz13_14 := blk_frozen BK151.out 14; have hfz13_15 := blk_frozen BK151.out 15))
     go_loopg [8] k1 (fun kq v8 w' => ∃ (x8_2 : Int) (x152001_2 : Int) (x152005_2 : Int) (x152009_2 : Int) (x152013_2 : Int), v8 = .int .i64 x8_2 ∧ Aside0 (guichetseat_Bank.l1 kq a0 a1 x6_1 x8_2 x135000_1 500 100000 t135 x152001_2 t137 t138 t139 x152005_2 t141 t142 t143 x152009_2 t145 t146 t147 x152013_2 t149 t150 = some (r1, r2, r3, r4, r5)) ∧ Aside0 (kq ≤ k1) ∧ Aside0 (Kd.R k31 31 w' w.heap.size (fun k_ => k_ ≠ gb151) u135000 x135000_1) ∧ Aside0 (w'.heap[gb133]? = some (.cells #[(.slice none 0 0), (.slice none 0 0), (.slice none 0 0), .int .i64 0, .int .i64 0] 26 (0, 0))) ∧ Aside0 (w'.heap[gb134]? = some (.cells #[u135000, (.slice none 0 0), (.slice none 0 0), .int .i64 500, .int .i64 100000] 26 (0, 0))) ∧ Aside0 (w'.heap[gb151]? = some (.cells #[.int .i64 t135, .int .i64 x152001_2, .int .i64 t137, .int .i64 t138, .int .i64 t139, .int .i64 x152005_2, .int .i64 t141, .int .i64 t142, .int .i64 t143, .int .i64 x152009_2, .int .i64 t145, .int .i64 t146, .int .i64 t147, .int .i64 x152013_2, .int .i64 t149, .int .i64 t150] 31 (0, 0))) ∧ Aside0 (Below w.heap.size w w'))
     case atStart => exact ⟨(0), (t136), (t140), (t144), (t148), (by first | rfl | (simp; done) | (simp [*]; done) | (congr 1; unfold wrap64; omega)), H', ⟨Nat.le_refl _⟩, ⟨by (with_reducible repeat (first | apply Kd.R_alloc | apply Kd.R_drewN | apply Kd.R_drew)); exact Kd.R_mono (Kd.R_far (p := ⟨gb151, 15, none⟩) (Kd.R_far (p := ⟨gb151, 14, none⟩) (Kd.R_far (p := ⟨gb151, 13, none⟩) (Kd.R_far (p := ⟨gb151, 12, none⟩) (Kd.R_far (p := ⟨gb151, 11, none⟩) (Kd.R_far (p := ⟨gb151, 10, none⟩) (Kd.R_far (p := ⟨gb151, 9, none⟩) (Kd.R_far (p := ⟨gb151, 8, none⟩) (Kd.R_far (p := ⟨gb151, 7, none⟩) (Kd.R_far (p := ⟨gb151, 6, none⟩) (Kd.R_far (p := ⟨gb151, 5, none⟩) (Kd.R_far (p := ⟨gb151, 4, none⟩) (Kd.R_far (p := ⟨gb151, 3, none⟩) (Kd.R_far (p := ⟨gb151, 2, none⟩) (Kd.R_far (p := ⟨gb151, 1, none⟩) (Kd.R_far (p := ⟨gb151, 0, none⟩) (Kd.R_mono HO_135000.out (fun k_ hk => (⟨hk, hk.2⟩ : _ ∧ k_ ≠ gb151))) (fun _ hk => hk.2) (.int .i64 t135)) (fun _ hk => hk.2) (.int .i64 t136)) (fun _ hk => hk.2) (.int .i64 t137)) (fun _ hk => hk.2) (.int .i64 t138)) (fun _ hk => hk.2) (.int .i64 t139)) (fun _ hk => hk.2) (.int .i64 t140)) (fun _ hk => hk.2) (.int .i64 t141)) (fun _ hk => hk.2) (.int .i64 t142)) (fun _ hk => hk.2) (.int .i64 t143)) (fun _ hk => hk.2) (.int .i64 t144)) (fun _ hk => hk.2) (.int .i64 t145)) (fun _ hk => hk.2) (.int .i64 t146)) (fun _ hk => hk.2) (.int .i64 t147)) (fun _ hk => hk.2) (.int .i64 t148)) (fun _ hk => hk.2) (.int .i64 t149)) (fun _ hk => hk.2) (.int .i64 t150)) (fun _ hk => hk.1.2)⟩, ⟨by (with_reducible repeat (first | refine blk_drewN ?_ _ | refine blk_drew ?_ | refine blk_alloc ?_ _)); refine blk_far ?_ NB133_151.out _; (with_reducible repeat (first | refine blk_drewN ?_ _ | refine blk_drew ?_ | refine blk_alloc ?_ _)); refine blk_far ?_ NB133_151.out _; (with_reducible repeat (first | refine blk_drewN ?_ _ | refine blk_drew ?_ | refine blk_alloc ?_ _)); refine blk_far ?_ NB133_151.out _; (with_reducible repeat (first | refine blk_drewN ?_ _ | refine blk_drew ?_ | refine blk_alloc ?_ _)); refine blk_far ?_ NB133_151.out _; (with_reducible repeat (first | refine blk_drewN ?_ _ | refine blk_drew ?_ | refine blk_alloc ?_ _)); refine blk_far ?_ NB133_151.out _; (with_reducible repeat (first | refine blk_drewN ?_ _ | refine blk_drew ?_ | refine blk_alloc ?_ _)); refine blk_far ?_ NB133_151.out _; (with_reducible repeat (first | refine blk_drewN ?_ _ | refine blk_drew ?_ | refine blk_alloc ?_ _)); refine blk_far ?_ NB133_151.out _; (with_reducible repeat (first | refine blk_drewN ?_ _ | refine blk_drew ?_ | refine blk_alloc ?_ _)); refine blk_far ?_ NB133_151.out _; (with_reducible repeat (first | refine blk_drewN ?_ _ | refine blk_drew ?_ | refine blk_alloc ?_ _)); refine blk_far ?_ NB133_151.out _; (with_reducible repeat (first | refine blk_drewN ?_ _ | refine blk_drew ?_ | refine blk_alloc ?_ _)); refine blk_far ?_ NB133_151.out _; (with_reducible repeat (first | refine blk_drewN ?_ _ | refine blk_drew ?_ | refine blk_alloc ?_ _)); refine blk_far ?_ NB133_151.out _; (with_reducible repeat (first | refine blk_drewN ?_ _ | refine blk_drew ?_ | refine blk_alloc ?_ _)); refine blk_far ?_ NB133_151.out _; (with_reducible repeat (first | refine blk_drewN ?_ _ | refine blk_drew ?_ | refine blk_alloc ?_ _)); refine blk_far ?_ NB133_151.out _; (with_reducible repeat (first | refine blk_drewN ?_ _ | refine blk_drew ?_ | refine blk_alloc ?_ _)); refine blk_far ?_ NB133_151.out _; (with_reducible repeat (first | refine blk_drewN ?_ _ | refine blk_drew ?_ | refine blk_alloc ?_ _)); refine blk_far ?_ NB133_151.out _; (with_reducible repeat (first | refine blk_drewN ?_ _ | refine blk_drew ?_ | refine blk_alloc ?_ _)); refine blk_far ?_ NB133_151.out _; (with_reducible repeat (first | refine blk_drewN ?_ _ | refine blk_drew ?_ | refine blk_alloc ?_ _)); exact BK133.out⟩, ⟨by (with_reducible repeat (first | refine blk_drewN ?_ _ | refine blk_drew ?_ | refine blk_alloc ?_ _)); refine blk_far ?_ NB134_151.out _; (with_reducible repeat (first | refine blk_drewN ?_ _ | refine blk_drew ?_ | refine blk_alloc ?_ _)); refine blk_far ?_ NB134_151.out _; (with_reducible repeat (first | refine blk_drewN ?_ _ | refine blk_drew ?_ | refine blk_alloc ?_ _)); refine blk_far ?_ NB134_151.out _; (with_reducible repeat (first | refine blk_drewN ?_ _ | refine blk_drew ?_ | refine blk_alloc ?_ _)); refine blk_far ?_ NB134_151.out _; (with_reducible repeat (first | refine blk_drewN ?_ _ | refine blk_drew ?_ | refine blk_alloc ?_ _)); refine blk_far ?_ NB134_151.out _; (with_reducible repeat (first | refine blk_drewN ?_ _ | refine blk_drew ?_ | refine blk_alloc ?_ _)); refine blk_far ?_ NB134_151.out _; (with_reducible repeat (first | refine blk_drewN ?_ _ | refine blk_drew ?_ | refine blk_alloc ?_ _)); refine blk_far ?_ NB134_151.out _; (with_reducible repeat (first | refine blk_drewN ?_ _ | refine blk_drew ?_ | refine blk_alloc ?_ _)); refine blk_far ?_ NB134_151.out _; (with_reducible repeat (first | refine blk_drewN ?_ _ | refine blk_drew ?_ | refine blk_alloc ?_ _)); refine blk_far ?_ NB134_151.out _; (with_reducible repeat (first | refine blk_drewN ?_ _ | refine blk_drew ?_ | refine blk_alloc ?_ _)); refine blk_far ?_ NB134_151.out _; (with_reducible repeat (first | refine blk_drewN ?_ _ | refine blk_drew ?_ | refine blk_alloc ?_ _)); refine blk_far ?_ NB134_151.out _; (with_reducible repeat (first | refine blk_drewN ?_ _ | refine blk_drew ?_ | refine blk_alloc ?_ _)); refine blk_far ?_ NB134_151.out _; (with_reducible repeat (first | refine blk_drewN ?_ _ | refine blk_drew ?_ | refine blk_alloc ?_ _)); refine blk_far ?_ NB134_151.out _; (with_reducible repeat (first | refine blk_drewN ?_ _ | refine blk_drew ?_ | refine blk_alloc ?_ _)); refine blk_far ?_ NB134_151.out _; (with_reducible repeat (first | refine blk_drewN ?_ _ | refine blk_drew ?_ | refine blk_alloc ?_ _)); refine blk_far ?_ NB134_151.out _; (with_reducible repeat (first | refine blk_drewN ?_ _ | refine blk_drew ?_ | refine blk_alloc ?_ _)); refine blk_far ?_ NB134_151.out _; (with_reducible repeat (first | refine blk_drewN ?_ _ | refine blk_drew ?_ | refine blk_alloc ?_ _)); exact BK134.out⟩, ⟨by (with_reducible repeat (first | refine blk_drewN ?_ _ | refine blk_drew ?_ | refine blk_alloc ?_ _)); refine blk_put (cs := #[.int .i64 t135, .int .i64 t136, .int .i64 t137, .int .i64 t138, .int .i64 t139, .int .i64 t140, .int .i64 t141, .int .i64 t142, .int .i64 t143, .int .i64 t144, .int .i64 t145, .int .i64 t146, .int .i64 t147, .int .i64 t148, .int .i64 t149, .int .i64 0]) ?_ 15 _ rfl; (with_reducible repeat (first | refine blk_drewN ?_ _ | refine blk_drew ?_ | refine blk_alloc ?_ _)); refine blk_put (cs := #[.int .i64 t135, .int .i64 t136, .int .i64 t137, .int .i64 t138, .int .i64 t139, .int .i64 t140, .int .i64 t141, .int .i64 t142, .int .i64 t143, .int .i64 t144, .int .i64 t145, .int .i64 t146, .int .i64 t147, .int .i64 t148, .int .i64 0, .int .i64 0]) ?_ 14 _ rfl; (with_reducible repeat (first | refine blk_drewN ?_ _ | refine blk_drew ?_ | refine blk_alloc ?_ _)); refine blk_put (cs := #[.int .i64 t135, .int .i64 t136, .int .i64 t137, .int .i64 t138, .int .i64 t139, .int .i64 t140, .int .i64 t141, .int .i64 t142, .int .i64 t143, .int .i64 t144, .int .i64 t145, .int .i64 t146, .int .i64 t147, .int .i64 0, .int .i64 0, .int .i64 0]) ?_ 13 _ rfl; (with_reducible repeat (first | refine blk_drewN ?_ _ | refine blk_drew ?_ | refine blk_alloc ?_ _)); refine blk_put (cs := #[.int .i64 t135, .int .i64 t136, .int .i64 t137, .int .i64 t138, .int .i64 t139, .int .i64 t140, .int .i64 t141, .int .i64 t142, .int .i64 t143, .int .i64 t144, .int .i64 t145, .int .i64 t146, .int .i64 0, .int .i64 0, .int .i64 0, .int .i64 0]) ?_ 12 _ rfl; (with_reducible repeat (first | refine blk_drewN ?_ _ | refine blk_drew ?_ | refine blk_alloc ?_ _)); refine blk_put (cs := #[.int .i64 t135, .int .i64 t136, .int .i64 t137, .int .i64 t138, .int .i64 t139, .int .i64 t140, .int .i64 t141, .int .i64 t142, .int .i64 t143, .int .i64 t144, .int .i64 t145, .int .i64 0, .int .i64 0, .int .i64 0, .int .i64 0, .int .i64 0]) ?_ 11 _ rfl; (with_reducible repeat (first | refine blk_drewN ?_ _ | refine blk_drew ?_ | refine blk_alloc ?_ _)); refine blk_put (cs := #[.int .i64 t135, .int .i64 t136, .int .i64 t137, .int .i64 t138, .int .i64 t139, .int .i64 t140, .int .i64 t141, .int .i64 t142, .int .i64 t143, .int .i64 t144, .int .i64 0, .int .i64 0, .int .i64 0, .int .i64 0, .int .i64 0, .int .i64 0]) ?_ 10 _ rfl; (with_reducible repeat (first | refine blk_drewN ?_ _ | refine blk_drew ?_ | refine blk_alloc ?_ _)); refine blk_put (cs := #[.int .i64 t135, .int .i64 t136, .int .i64 t137, .int .i64 t138, .int .i64 t139, .int .i64 t140, .int .i64 t141, .int .i64 t142, .int .i64 t143, .int .i64 0, .int .i64 0, .int .i64 0, .int .i64 0, .int .i64 0, .int .i64 0, .int .i64 0]) ?_ 9 _ rfl; (with_reducible repeat (first | refine blk_drewN ?_ _ | refine blk_drew ?_ | refine blk_alloc ?_ _)); refine blk_put (cs := #[.int .i64 t135, .int .i64 t136, .int .i64 t137, .int .i64 t138, .int .i64 t139, .int .i64 t140, .int .i64 t141, .int .i64 t142, .int .i64 0, .int .i64 0, .int .i64 0, .int .i64 0, .int .i64 0, .int .i64 0, .int .i64 0, .int .i64 0]) ?_ 8 _ rfl; (with_reducible repeat (first | refine blk_drewN ?_ _ | refine blk_drew ?_ | refine blk_alloc ?_ _)); refine blk_put (cs := #[.int .i64 t135, .int .i64 t136, .int .i64 t137, .int .i64 t138, .int .i64 t139, .int .i64 t140, .int .i64 t141, .int .i64 0, .int .i64 0, .int .i64 0, .int .i64 0, .int .i64 0, .int .i64 0, .int .i64 0, .int .i64 0, .int .i64 0]) ?_ 7 _ rfl; (with_reducible repeat (first | refine blk_drewN ?_ _ | refine blk_drew ?_ | refine blk_alloc ?_ _)); refine blk_put (cs := #[.int .i64 t135, .int .i64 t136, .int .i64 t137, .int .i64 t138, .int .i64 t139, .int .i64 t140, .int .i64 0, .int .i64 0, .int .i64 0, .int .i64 0, .int .i64 0, .int .i64 0, .int .i64 0, .int .i64 0, .int .i64 0, .int .i64 0]) ?_ 6 _ rfl; (with_reducible repeat (first | refine blk_drewN ?_ _ | refine blk_drew ?_ | refine blk_alloc ?_ _)); refine blk_put (cs := #[.int .i64 t135, .int .i64 t136, .int .i64 t137, .int .i64 t138, .int .i64 t139, .int .i64 0, .int .i64 0, .int .i64 0, .int .i64 0, .int .i64 0, .int .i64 0, .int .i64 0, .int .i64 0, .int .i64 0, .int .i64 0, .int .i64 0]) ?_ 5 _ rfl; (with_reducible repeat (first | refine blk_drewN ?_ _ | refine blk_drew ?_ | refine blk_alloc ?_ _)); refine blk_put (cs := #[.int .i64 t135, .int .i64 t136, .int .i64 t137, .int .i64 t138, .int .i64 0, .int .i64 0, .int .i64 0, .int .i64 0, .int .i64 0, .int .i64 0, .int .i64 0, .int .i64 0, .int .i64 0, .int .i64 0, .int .i64 0, .int .i64 0]) ?_ 4 _ rfl; (with_reducible repeat (first | refine blk_drewN ?_ _ | refine blk_drew ?_ | refine blk_alloc ?_ _)); refine blk_put (cs := #[.int .i64 t135, .int .i64 t136, .int .i64 t137, .int .i64 0, .int .i64 0, .int .i64 0, .int .i64 0, .int .i64 0, .int .i64 0, .int .i64 0, .int .i64 0, .int .i64 0, .int .i64 0, .int .i64 0, .int .i64 0, .int .i64 0]) ?_ 3 _ rfl; (with_reducible repeat (first | refine blk_drewN ?_ _ | refine blk_drew ?_ | refine blk_alloc ?_ _)); refine blk_put (cs := #[.int .i64 t135, .int .i64 t136, .int .i64 0, .int .i64 0, .int .i64 0, .int .i64 0, .int .i64 0, .int .i64 0, .int .i64 0, .int .i64 0, .int .i64 0, .int .i64 0, .int .i64 0, .int .i64 0, .int .i64 0, .int .i64 0]) ?_ 2 _ rfl; (with_reducible repeat (first | refine blk_drewN ?_ _ | refine blk_drew ?_ | refine blk_alloc ?_ _)); refine blk_put (cs := #[.int .i64 t135, .int .i64 0, .int .i64 0, .int .i64 0, .int .i64 0, .int .i64 0, .int .i64 0, .int .i64 0, .int .i64 0, .int .i64 0, .int .i64 0, .int .i64 0, .int .i64 0, .int .i64 0, .int .i64 0, .int .i64 0]) ?_ 1 _ rfl; (with_reducible repeat (first | refine blk_drewN ?_ _ | refine blk_drew ?_ | refine blk_alloc ?_ _)); refine blk_put (cs := #[.int .i64 0, .int .i64 0, .int .i64 0, .int .i64 0, .int .i64 0, .int .i64 0, .int .i64 0, .int .i64 0, .int .i64 0, .int .i64 0, .int .i64 0, .int .i64 0, .int .i64 0, .int .i64 0, .int .i64 0, .int .i64 0]) ?_ 0 _ rfl; (with_reducible repeat (first | refine blk_drewN ?_ _ | refine blk_drew ?_ | refine blk_alloc ?_ _)); exact BK151.out⟩, ⟨by repeat (first | (with_reducible first | exact HB.out | apply below_alloc | apply pw_below_drewN | apply below_drew1 | refine below_set ?_ GE133.out | refine below_set ?_ GE134.out | refine below_set ?_ GE151.out) | exact HB.out)⟩⟩
     case round =>
      clear H'
      try clear c1
      try clear p2
      try clear c5
      try clear c6
      try clear p6
      try clear c7
      try clear c7b0
      try clear c11
      try clear c12
      try clear hcz13_0
      try clear hcz13_1
      try clear hcz13_10
      try clear hcz13_11
      try clear hcz13_12
      try clear hcz13_13
      try clear hcz13_14
      try clear hcz13_15
      try clear hcz13_2
      try clear hcz13_3
      try clear hcz13_4
      try clear hcz13_5
      try clear hcz13_6
      try clear hcz13_7
      try clear hcz13_8
      try clear hcz13_9
      try clear hcz6_0
      try clear hcz6_1
      try clear hcz6_2
      try clear hcz6_3
      try clear hcz6_4
      try clear hfz13_0
      try clear hfz13_1
      try clear hfz13_10
      try clear hfz13_11
      try clear hfz13_12
      try clear hfz13_13
      try clear hfz13_14
      try clear hfz13_15
      try clear hfz13_2
      try clear hfz13_3
      try clear hfz13_4
      try clear hfz13_5
      try clear hfz13_6
      try clear hfz13_7
      try clear hfz13_8
      try clear hfz13_9
      try clear hfz6_0
      try clear hfz6_1
      try clear hfz6_2
      try clear hfz6_3
      try clear hfz6_4
      try clear p2
      obtain ⟨x8_2, x152001_2, x152005_2, x152009_2, x152013_2, rfl, HA, HK2, HO_135000, BK133, BK134, BK151, HB⟩ := hrel
      cases gk with
      | zero => exact absurd HA.out (by simp [guichetseat_Bank.l1])
      | succ k2 =>
       have H := HA.out
       clear HA
       simp only [guichetseat_Bank.l1] at H
       by_cases c14 : x8_2 < 4
       ·rw [if_pos c14] at H
        have c14b0 : decide (x8_2 < 4) = true := decide_eq_true c14
        clear c14
        by_cases c15 : x8_2 = 0
        ·subst c15
         have H1 : (if 0 = 0 then (guichetseat_Bank.l1 k2 a0 a1 x6_1 (wrap64 (0 + 1)) x135000_1 500 100000 t135 (mx x152001_2 9) t137 t138 t139 x152005_2 t141 t142 t143 x152009_2 t145 t146 t147 x152013_2 t149 t150) else (if 0 = 1 then (guichetseat_Bank.l1 k2 a0 a1 x6_1 (wrap64 (0 + 1)) x135000_1 500 100000 t135 x152001_2 t137 t138 t139 (mx x152001_2 9) t141 t142 t143 x152009_2 t145 t146 t147 x152013_2 t149 t150) else (if 0 = 2 then (guichetseat_Bank.l1 k2 a0 a1 x6_1 (wrap64 (0 + 1)) x135000_1 500 100000 t135 x152001_2 t137 t138 t139 x152005_2 t141 t142 t143 (mx x152001_2 9) t145 t146 t147 x152013_2 t149 t150) else (if 0 = 3 then (guichetseat_Bank.l1 k2 a0 a1 x6_1 (wrap64 (0 + 1)) x135000_1 500 100000 t135 x152001_2 t137 t138 t139 x152005_2 t141 t142 t143 x152009_2 t145 t146 t147 (mx x152001_2 9) t149 t150) else (none))))) = some (r1, r2, r3, r4, r5) := by rw [if_pos rfl] at H; exact H
         clear H
         have H := H1
         clear H1
         obtain ⟨ji16, hji16⟩ : ∃ j_ : Int, (mx x152001_2 9) = j_ := ⟨_, rfl⟩
         replace H : (if 0 = 0 then (guichetseat_Bank.l1 k2 a0 a1 x6_1 (wrap64 (0 + 1)) x135000_1 500 100000 t135 ji16 t137 t138 t139 x152005_2 t141 t142 t143 x152009_2 t145 t146 t147 x152013_2 t149 t150) else (if 0 = 1 then (guichetseat_Bank.l1 k2 a0 a1 x6_1 (wrap64 (0 + 1)) x135000_1 500 100000 t135 x152001_2 t137 t138 t139 ji16 t141 t142 t143 x152009_2 t145 t146 t147 x152013_2 t149 t150) else (if 0 = 2 then (guichetseat_Bank.l1 k2 a0 a1 x6_1 (wrap64 (0 + 1)) x135000_1 500 100000 t135 x152001_2 t137 t138 t139 x152005_2 t141 t142 t143 ji16 t145 t146 t147 x152013_2 t149 t150) else (if 0 = 3 then (guichetseat_Bank.l1 k2 a0 a1 x6_1 (wrap64 (0 + 1)) x135000_1 500 100000 t135 x152001_2 t137 t138 t139 x152005_2 t141 t142 t143 x152009_2 t145 t146 t147 ji16 t149 t150) else (none))))) = some (r1, r2, r3, r4, r5) := by first | (rw [hji16] at H; exact H) | (simp only [hji16] at H ⊢; exact H)
         have hji16_ : (if x152001_2 < 9 then 9 else x152001_2) = ji16 := hji16
         have H1 : (guichetseat_Bank.l1 k2 a0 a1 x6_1 (wrap64 (0 + 1)) x135000_1 500 100000 t135 ji16 t137 t138 t139 x152005_2 t141 t142 t143 x152009_2 t145 t146 t147 x152013_2 t149 t150) = some (r1, r2, r3, r4, r5) := by rw [if_pos rfl] at H; exact H
         clear H
         have H := H1
         clear H1
         have H' := Aside0.mk H
         clear H
         have hnb18 := NB151_133.out
         have hnc18 := NB133_151.out
         have hnb19 := NB151_134.out
         have hnc19 := NB134_151.out
         have hcz20_0 : wr.cell? ⟨gb151, 0, none⟩ = some (.int .i64 t135) := (blk_cell BK151.out 0).trans rfl
         have hcz20_1 : wr.cell? ⟨gb151, 1, none⟩ = some (.int .i64 x152001_2) := (blk_cell BK151.out 1).trans rfl
         have hcz20_2 : wr.cell? ⟨gb151, 2, none⟩ = some (.int .i64 t137) := (blk_cell BK151.out 2).trans rfl
         have hcz20_3 : wr.cell? ⟨gb151, 3, none⟩ = some (.int .i64 t138) := (blk_cell BK151.out 3).trans rfl
         have hcz20_4 : wr.cell? ⟨gb151, 4, none⟩ = some (.int .i64 t139) := (blk_cell BK151.out 4).trans rfl
         have hcz20_5 : wr.cell? ⟨gb151, 5, none⟩ = some (.int .i64 x152005_2) := (blk_cell BK151.out 5).trans rfl
         have hcz20_6 : wr.cell? ⟨gb151, 6, none⟩ = some (.int .i64 t141) := (blk_cell BK151.out 6).trans rfl
         have hcz20_7 : wr.cell? ⟨gb151, 7, none⟩ = some (.int .i64 t142) := (blk_cell BK151.out 7).trans rfl
         have hcz20_8 : wr.cell? ⟨gb151, 8, none⟩ = some (.int .i64 t143) := (blk_cell BK151.out 8).trans rfl
         have hcz20_9 : wr.cell? ⟨gb151, 9, none⟩ = some (.int .i64 x152009_2) := (blk_cell BK151.out 9).trans rfl
         have hcz20_10 : wr.cell? ⟨gb151, 10, none⟩ = some (.int .i64 t145) := (blk_cell BK151.out 10).trans rfl
         have hcz20_11 : wr.cell? ⟨gb151, 11, none⟩ = some (.int .i64 t146) := (blk_cell BK151.out 11).trans rfl
         have hcz20_12 : wr.cell? ⟨gb151, 12, none⟩ = some (.int .i64 t147) := (blk_cell BK151.out 12).trans rfl
         have hcz20_13 : wr.cell? ⟨gb151, 13, none⟩ = some (.int .i64 x152013_2) := (blk_cell BK151.out 13).trans rfl
         have hcz20_14 : wr.cell? ⟨gb151, 14, none⟩ = some (.int .i64 t149) := (blk_cell BK151.out 14).trans rfl
         have hcz20_15 : wr.cell? ⟨gb151, 15, none⟩ = some (.int .i64 t150) := (blk_cell BK151.out 15).trans rfl
         have hfz20_0 := blk_frozen BK151.out 0
         have hfz20_1 := blk_frozen BK151.out 1
         have hfz20_2 := blk_frozen BK151.out 2
         have hfz20_3 := blk_frozen BK151.out 3
         have hfz20_4 := blk_frozen BK151.out 4
         have hfz20_5 := blk_frozen BK151.out 5
         have hfz20_6 := blk_frozen BK151.out 6
         have hfz20_7 := blk_frozen BK151.out 7
         have hfz20_8 := blk_frozen BK151.out 8
         have hfz20_9 := blk_frozen BK151.out 9
         have hfz20_10 := blk_frozen BK151.out 10
         have hfz20_11 := blk_frozen BK151.out 11
         have hfz20_12 := blk_frozen BK151.out 12
         have hfz20_13 := blk_frozen BK151.out 13
         have hfz20_14 := blk_frozen BK151.out 14
         have hfz20_15 := blk_frozen BK151.out 15
         go_wp2
         go_roundg k2
         case measure => have := HK1.out; have := HK2.out; omega
         case rel => exact ⟨(wrap64 (0 + 1)), (ji16), (x152005_2), (x152009_2), (x152013_2), (by first | rfl | (simp; done) | (simp [*]; done) | (congr 1; unfold wrap64; omega)), H', ⟨by have := HK1.out; have := HK2.out; omega⟩, ⟨by (with_reducible repeat (first | apply Kd.R_alloc | apply Kd.R_drewN | apply Kd.R_drew)); exact Kd.R_mono (Kd.R_far (p := ⟨gb151, 1, none⟩) (Kd.R_mono HO_135000.out (fun k_ hk => (⟨hk, hk⟩ : _ ∧ k_ ≠ gb151))) (fun _ hk => hk.2) (.int .i64 ji16)) (fun _ hk => hk.1)⟩, ⟨by (with_reducible repeat (first | refine blk_drewN ?_ _ | refine blk_drew ?_ | refine blk_alloc ?_ _)); refine blk_far ?_ NB133_151.out _; (with_reducible repeat (first | refine blk_drewN ?_ _ | refine blk_drew ?_ | refine blk_alloc ?_ _)); exact BK133.out⟩, ⟨by (with_reducible repeat (first | refine blk_drewN ?_ _ | refine blk_drew ?_ | refine blk_alloc ?_ _)); refine blk_far ?_ NB134_151.out _; (with_reducible repeat (first | refine blk_drewN ?_ _ | refine blk_drew ?_ | refine blk_alloc ?_ _)); exact BK134.out⟩, ⟨by (with_reducible repeat (first | refine blk_drewN ?_ _ | refine blk_drew ?_ | refine blk_alloc ?_ _)); refine blk_put (cs := #[.int .i64 t135, .int .i64 x152001_2, .int .i64 t137, .int .i64 t138, .int .i64 t139, .int .i64 x152005_2, .int .i64 t141, .int .i64 t142, .int .i64 t143, .int .i64 x152009_2, .int .i64 t145, .int .i64 t146, .int .i64 t147, .int .i64 x152013_2, .int .i64 t149, .int .i64 t150]) ?_ 1 _ rfl; (with_reducible repeat (first | refine blk_drewN ?_ _ | refine blk_drew ?_ | refine blk_alloc ?_ _)); exact BK151.out⟩, ⟨by repeat (first | (with_reducible first | exact HB.out | apply below_alloc | apply pw_below_drewN | apply below_drew1 | refine below_set ?_ GE133.out | refine below_set ?_ GE134.out | refine below_set ?_ GE151.out) | exact HB.out)⟩⟩
        ·rw [if_neg c15] at H
         by_cases c21 : x8_2 = 1
         ·subst c21
          have H1 : (if 1 = 0 then (guichetseat_Bank.l1 k2 a0 a1 x6_1 (wrap64 (1 + 1)) x135000_1 500 100000 t135 (mx x152005_2 9) t137 t138 t139 x152005_2 t141 t142 t143 x152009_2 t145 t146 t147 x152013_2 t149 t150) else (if 1 = 1 then (guichetseat_Bank.l1 k2 a0 a1 x6_1 (wrap64 (1 + 1)) x135000_1 500 100000 t135 x152001_2 t137 t138 t139 (mx x152005_2 9) t141 t142 t143 x152009_2 t145 t146 t147 x152013_2 t149 t150) else (if 1 = 2 then (guichetseat_Bank.l1 k2 a0 a1 x6_1 (wrap64 (1 + 1)) x135000_1 500 100000 t135 x152001_2 t137 t138 t139 x152005_2 t141 t142 t143 (mx x152005_2 9) t145 t146 t147 x152013_2 t149 t150) else (if 1 = 3 then (guichetseat_Bank.l1 k2 a0 a1 x6_1 (wrap64 (1 + 1)) x135000_1 500 100000 t135 x152001_2 t137 t138 t139 x152005_2 t141 t142 t143 x152009_2 t145 t146 t147 (mx x152005_2 9) t149 t150) else (none))))) = some (r1, r2, r3, r4, r5) := by rw [if_pos rfl] at H; exact H
          clear H
          have H := H1
          clear H1
          obtain ⟨ji22, hji22⟩ : ∃ j_ : Int, (mx x152005_2 9) = j_ := ⟨_, rfl⟩
          replace H : (if 1 = 0 then (guichetseat_Bank.l1 k2 a0 a1 x6_1 (wrap64 (1 + 1)) x135000_1 500 100000 t135 ji22 t137 t138 t139 x152005_2 t141 t142 t143 x152009_2 t145 t146 t147 x152013_2 t149 t150) else (if 1 = 1 then (guichetseat_Bank.l1 k2 a0 a1 x6_1 (wrap64 (1 + 1)) x135000_1 500 100000 t135 x152001_2 t137 t138 t139 ji22 t141 t142 t143 x152009_2 t145 t146 t147 x152013_2 t149 t150) else (if 1 = 2 then (guichetseat_Bank.l1 k2 a0 a1 x6_1 (wrap64 (1 + 1)) x135000_1 500 100000 t135 x152001_2 t137 t138 t139 x152005_2 t141 t142 t143 ji22 t145 t146 t147 x152013_2 t149 t150) else (if 1 = 3 then (guichetseat_Bank.l1 k2 a0 a1 x6_1 (wrap64 (1 + 1)) x135000_1 500 100000 t135 x152001_2 t137 t138 t139 x152005_2 t141 t142 t143 x152009_2 t145 t146 t147 ji22 t149 t150) else (none))))) = some (r1, r2, r3, r4, r5) := by first | (rw [hji22] at H; exact H) | (simp only [hji22] at H ⊢; exact H)
          have hji22_ : (if x152005_2 < 9 then 9 else x152005_2) = ji22 := hji22
          have H1 : (if 1 = 1 then (guichetseat_Bank.l1 k2 a0 a1 x6_1 (wrap64 (1 + 1)) x135000_1 500 100000 t135 x152001_2 t137 t138 t139 ji22 t141 t142 t143 x152009_2 t145 t146 t147 x152013_2 t149 t150) else (if 1 = 2 then (guichetseat_Bank.l1 k2 a0 a1 x6_1 (wrap64 (1 + 1)) x135000_1 500 100000 t135 x152001_2 t137 t138 t139 x152005_2 t141 t142 t143 ji22 t145 t146 t147 x152013_2 t149 t150) else (if 1 = 3 then (guichetseat_Bank.l1 k2 a0 a1 x6_1 (wrap64 (1 + 1)) x135000_1 500 100000 t135 x152001_2 t137 t138 t139 x152005_2 t141 t142 t143 x152009_2 t145 t146 t147 ji22 t149 t150) else (none)))) = some (r1, r2, r3, r4, r5) := by rw [if_neg (by decide)] at H; exact H
          clear H
          have H := H1
          clear H1
          have H1 : (guichetseat_Bank.l1 k2 a0 a1 x6_1 (wrap64 (1 + 1)) x135000_1 500 100000 t135 x152001_2 t137 t138 t139 ji22 t141 t142 t143 x152009_2 t145 t146 t147 x152013_2 t149 t150) = some (r1, r2, r3, r4, r5) := by rw [if_pos rfl] at H; exact H
          clear H
          have H := H1
          clear H1
          have H' := Aside0.mk H
          clear H
          have hnb25 := NB151_133.out
          have hnc25 := NB133_151.out
          have hnb26 := NB151_134.out
          have hnc26 := NB134_151.out
          have hcz27_0 : wr.cell? ⟨gb151, 0, none⟩ = some (.int .i64 t135) := (blk_cell BK151.out 0).trans rfl
          have hcz27_1 : wr.cell? ⟨gb151, 1, none⟩ = some (.int .i64 x152001_2) := (blk_cell BK151.out 1).trans rfl
          have hcz27_2 : wr.cell? ⟨gb151, 2, none⟩ = some (.int .i64 t137) := (blk_cell BK151.out 2).trans rfl
          have hcz27_3 : wr.cell? ⟨gb151, 3, none⟩ = some (.int .i64 t138) := (blk_cell BK151.out 3).trans rfl
          have hcz27_4 : wr.cell? ⟨gb151, 4, none⟩ = some (.int .i64 t139) := (blk_cell BK151.out 4).trans rfl
          have hcz27_5 : wr.cell? ⟨gb151, 5, none⟩ = some (.int .i64 x152005_2) := (blk_cell BK151.out 5).trans rfl
          have hcz27_6 : wr.cell? ⟨gb151, 6, none⟩ = some (.int .i64 t141) := (blk_cell BK151.out 6).trans rfl
          have hcz27_7 : wr.cell? ⟨gb151, 7, none⟩ = some (.int .i64 t142) := (blk_cell BK151.out 7).trans rfl
          have hcz27_8 : wr.cell? ⟨gb151, 8, none⟩ = some (.int .i64 t143) := (blk_cell BK151.out 8).trans rfl
          have hcz27_9 : wr.cell? ⟨gb151, 9, none⟩ = some (.int .i64 x152009_2) := (blk_cell BK151.out 9).trans rfl
          have hcz27_10 : wr.cell? ⟨gb151, 10, none⟩ = some (.int .i64 t145) := (blk_cell BK151.out 10).trans rfl
          have hcz27_11 : wr.cell? ⟨gb151, 11, none⟩ = some (.int .i64 t146) := (blk_cell BK151.out 11).trans rfl
          have hcz27_12 : wr.cell? ⟨gb151, 12, none⟩ = some (.int .i64 t147) := (blk_cell BK151.out 12).trans rfl
          have hcz27_13 : wr.cell? ⟨gb151, 13, none⟩ = some (.int .i64 x152013_2) := (blk_cell BK151.out 13).trans rfl
          have hcz27_14 : wr.cell? ⟨gb151, 14, none⟩ = some (.int .i64 t149) := (blk_cell BK151.out 14).trans rfl
          have hcz27_15 : wr.cell? ⟨gb151, 15, none⟩ = some (.int .i64 t150) := (blk_cell BK151.out 15).trans rfl
          have hfz27_0 := blk_frozen BK151.out 0
          have hfz27_1 := blk_frozen BK151.out 1
          have hfz27_2 := blk_frozen BK151.out 2
          have hfz27_3 := blk_frozen BK151.out 3
          have hfz27_4 := blk_frozen BK151.out 4
          have hfz27_5 := blk_frozen BK151.out 5
          have hfz27_6 := blk_frozen BK151.out 6
          have hfz27_7 := blk_frozen BK151.out 7
          have hfz27_8 := blk_frozen BK151.out 8
          have hfz27_9 := blk_frozen BK151.out 9
          have hfz27_10 := blk_frozen BK151.out 10
          have hfz27_11 := blk_frozen BK151.out 11
          have hfz27_12 := blk_frozen BK151.out 12
          have hfz27_13 := blk_frozen BK151.out 13
          have hfz27_14 := blk_frozen BK151.out 14
          have hfz27_15 := blk_frozen BK151.out 15
          go_wp2
          go_roundg k2
          case measure => have := HK1.out; have := HK2.out; omega
          case rel => exact ⟨(wrap64 (1 + 1)), (x152001_2), (ji22), (x152009_2), (x152013_2), (by first | rfl | (simp; done) | (simp [*]; done) | (congr 1; unfold wrap64; omega)), H', ⟨by have := HK1.out; have := HK2.out; omega⟩, ⟨by (with_reducible repeat (first | apply Kd.R_alloc | apply Kd.R_drewN | apply Kd.R_drew)); exact Kd.R_mono (Kd.R_far (p := ⟨gb151, 5, none⟩) (Kd.R_mono HO_135000.out (fun k_ hk => (⟨hk, hk⟩ : _ ∧ k_ ≠ gb151))) (fun _ hk => hk.2) (.int .i64 ji22)) (fun _ hk => hk.1)⟩, ⟨by (with_reducible repeat (first | refine blk_drewN ?_ _ | refine blk_drew ?_ | refine blk_alloc ?_ _)); refine blk_far ?_ NB133_151.out _; (with_reducible repeat (first | refine blk_drewN ?_ _ | refine blk_drew ?_ | refine blk_alloc ?_ _)); exact BK133.out⟩, ⟨by (with_reducible repeat (first | refine blk_drewN ?_ _ | refine blk_drew ?_ | refine blk_alloc ?_ _)); refine blk_far ?_ NB134_151.out _; (with_reducible repeat (first | refine blk_drewN ?_ _ | refine blk_drew ?_ | refine blk_alloc ?_ _)); exact BK134.out⟩, ⟨by (with_reducible repeat (first | refine blk_drewN ?_ _ | refine blk_drew ?_ | refine blk_alloc ?_ _)); refine blk_put (cs := #[.int .i64 t135, .int .i64 x152001_2, .int .i64 t137, .int .i64 t138, .int .i64 t139, .int .i64 x152005_2, .int .i64 t141, .int .i64 t142, .int .i64 t143, .int .i64 x152009_2, .int .i64 t145, .int .i64 t146, .int .i64 t147, .int .i64 x152013_2, .int .i64 t149, .int .i64 t150]) ?_ 5 _ rfl; (with_reducible repeat (first | refine blk_drewN ?_ _ | refine blk_drew ?_ | refine blk_alloc ?_ _)); exact BK151.out⟩, ⟨by repeat (first | (with_reducible first | exact HB.out | apply below_alloc | apply pw_below_drewN | apply below_drew1 | refine below_set ?_ GE133.out | refine below_set ?_ GE134.out | refine below_set ?_ GE151.out) | exact HB.out)⟩⟩
         ·rw [if_neg c21] at H
          by_cases c28 : x8_2 = 2
          ·subst c28
           have H1 : (if 2 = 0 then (guichetseat_Bank.l1 k2 a0 a1 x6_1 (wrap64 (2 + 1)) x135000_1 500 100000 t135 (mx x152009_2 9) t137 t138 t139 x152005_2 t141 t142 t143 x152009_2 t145 t146 t147 x152013_2 t149 t150) else (if 2 = 1 then (guichetseat_Bank.l1 k2 a0 a1 x6_1 (wrap64 (2 + 1)) x135000_1 500 100000 t135 x152001_2 t137 t138 t139 (mx x152009_2 9) t141 t142 t143 x152009_2 t145 t146 t147 x152013_2 t149 t150) else (if 2 = 2 then (guichetseat_Bank.l1 k2 a0 a1 x6_1 (wrap64 (2 + 1)) x135000_1 500 100000 t135 x152001_2 t137 t138 t139 x152005_2 t141 t142 t143 (mx x152009_2 9) t145 t146 t147 x152013_2 t149 t150) else (if 2 = 3 then (guichetseat_Bank.l1 k2 a0 a1 x6_1 (wrap64 (2 + 1)) x135000_1 500 100000 t135 x152001_2 t137 t138 t139 x152005_2 t141 t142 t143 x152009_2 t145 t146 t147 (mx x152009_2 9) t149 t150) else (none))))) = some (r1, r2, r3, r4, r5) := by rw [if_pos rfl] at H; exact H
           clear H
           have H := H1
           clear H1
           obtain ⟨ji29, hji29⟩ : ∃ j_ : Int, (mx x152009_2 9) = j_ := ⟨_, rfl⟩
           replace H : (if 2 = 0 then (guichetseat_Bank.l1 k2 a0 a1 x6_1 (wrap64 (2 + 1)) x135000_1 500 100000 t135 ji29 t137 t138 t139 x152005_2 t141 t142 t143 x152009_2 t145 t146 t147 x152013_2 t149 t150) else (if 2 = 1 then (guichetseat_Bank.l1 k2 a0 a1 x6_1 (wrap64 (2 + 1)) x135000_1 500 100000 t135 x152001_2 t137 t138 t139 ji29 t141 t142 t143 x152009_2 t145 t146 t147 x152013_2 t149 t150) else (if 2 = 2 then (guichetseat_Bank.l1 k2 a0 a1 x6_1 (wrap64 (2 + 1)) x135000_1 500 100000 t135 x152001_2 t137 t138 t139 x152005_2 t141 t142 t143 ji29 t145 t146 t147 x152013_2 t149 t150) else (if 2 = 3 then (guichetseat_Bank.l1 k2 a0 a1 x6_1 (wrap64 (2 + 1)) x135000_1 500 100000 t135 x152001_2 t137 t138 t139 x152005_2 t141 t142 t143 x152009_2 t145 t146 t147 ji29 t149 t150) else (none))))) = some (r1, r2, r3, r4, r5) := by first | (rw [hji29] at H; exact H) | (simp only [hji29] at H ⊢; exact H)
           have hji29_ : (if x152009_2 < 9 then 9 else x152009_2) = ji29 := hji29
           have H1 : (if 2 = 1 then (guichetseat_Bank.l1 k2 a0 a1 x6_1 (wrap64 (2 + 1)) x135000_1 500 100000 t135 x152001_2 t137 t138 t139 ji29 t141 t142 t143 x152009_2 t145 t146 t147 x152013_2 t149 t150) else (if 2 = 2 then (guichetseat_Bank.l1 k2 a0 a1 x6_1 (wrap64 (2 + 1)) x135000_1 500 100000 t135 x152001_2 t137 t138 t139 x152005_2 t141 t142 t143 ji29 t145 t146 t147 x152013_2 t149 t150) else (if 2 = 3 then (guichetseat_Bank.l1 k2 a0 a1 x6_1 (wrap64 (2 + 1)) x135000_1 500 100000 t135 x152001_2 t137 t138 t139 x152005_2 t141 t142 t143 x152009_2 t145 t146 t147 ji29 t149 t150) else (none)))) = some (r1, r2, r3, r4, r5) := by rw [if_neg (by decide)] at H; exact H
           clear H
           have H := H1
           clear H1
           have H1 : (if 2 = 2 then (guichetseat_Bank.l1 k2 a0 a1 x6_1 (wrap64 (2 + 1)) x135000_1 500 100000 t135 x152001_2 t137 t138 t139 x152005_2 t141 t142 t143 ji29 t145 t146 t147 x152013_2 t149 t150) else (if 2 = 3 then (guichetseat_Bank.l1 k2 a0 a1 x6_1 (wrap64 (2 + 1)) x135000_1 500 100000 t135 x152001_2 t137 t138 t139 x152005_2 t141 t142 t143 x152009_2 t145 t146 t147 ji29 t149 t150) else (none))) = some (r1, r2, r3, r4, r5) := by rw [if_neg (by decide)] at H; exact H
           clear H
           have H := H1
           clear H1
           have H1 : (guichetseat_Bank.l1 k2 a0 a1 x6_1 (wrap64 (2 + 1)) x135000_1 500 100000 t135 x152001_2 t137 t138 t139 x152005_2 t141 t142 t143 ji29 t145 t146 t147 x152013_2 t149 t150) = some (r1, r2, r3, r4, r5) := by rw [if_pos rfl] at H; exact H
           clear H
           have H := H1
           clear H1
           have H' := Aside0.mk H
           clear H
           have hnb33 := NB151_133.out
           have hnc33 := NB133_151.out
           have hnb34 := NB151_134.out
           have hnc34 := NB134_151.out
           have hcz35_0 : wr.cell? ⟨gb151, 0, none⟩ = some (.int .i64 t135) := (blk_cell BK151.out 0).trans rfl
           have hcz35_1 : wr.cell? ⟨gb151, 1, none⟩ = some (.int .i64 x152001_2) := (blk_cell BK151.out 1).trans rfl
           have hcz35_2 : wr.cell? ⟨gb151, 2, none⟩ = some (.int .i64 t137) := (blk_cell BK151.out 2).trans rfl
           have hcz35_3 : wr.cell? ⟨gb151, 3, none⟩ = some (.int .i64 t138) := (blk_cell BK151.out 3).trans rfl
           have hcz35_4 : wr.cell? ⟨gb151, 4, none⟩ = some (.int .i64 t139) := (blk_cell BK151.out 4).trans rfl
           have hcz35_5 : wr.cell? ⟨gb151, 5, none⟩ = some (.int .i64 x152005_2) := (blk_cell BK151.out 5).trans rfl
           have hcz35_6 : wr.cell? ⟨gb151, 6, none⟩ = some (.int .i64 t141) := (blk_cell BK151.out 6).trans rfl
           have hcz35_7 : wr.cell? ⟨gb151, 7, none⟩ = some (.int .i64 t142) := (blk_cell BK151.out 7).trans rfl
           have hcz35_8 : wr.cell? ⟨gb151, 8, none⟩ = some (.int .i64 t143) := (blk_cell BK151.out 8).trans rfl
           have hcz35_9 : wr.cell? ⟨gb151, 9, none⟩ = some (.int .i64 x152009_2) := (blk_cell BK151.out 9).trans rfl
           have hcz35_10 : wr.cell? ⟨gb151, 10, none⟩ = some (.int .i64 t145) := (blk_cell BK151.out 10).trans rfl
           have hcz35_11 : wr.cell? ⟨gb151, 11, none⟩ = some (.int .i64 t146) := (blk_cell BK151.out 11).trans rfl
           have hcz35_12 : wr.cell? ⟨gb151, 12, none⟩ = some (.int .i64 t147) := (blk_cell BK151.out 12).trans rfl
           have hcz35_13 : wr.cell? ⟨gb151, 13, none⟩ = some (.int .i64 x152013_2) := (blk_cell BK151.out 13).trans rfl
           have hcz35_14 : wr.cell? ⟨gb151, 14, none⟩ = some (.int .i64 t149) := (blk_cell BK151.out 14).trans rfl
           have hcz35_15 : wr.cell? ⟨gb151, 15, none⟩ = some (.int .i64 t150) := (blk_cell BK151.out 15).trans rfl
           have hfz35_0 := blk_frozen BK151.out 0
           have hfz35_1 := blk_frozen BK151.out 1
           have hfz35_2 := blk_frozen BK151.out 2
           have hfz35_3 := blk_frozen BK151.out 3
           have hfz35_4 := blk_frozen BK151.out 4
           have hfz35_5 := blk_frozen BK151.out 5
           have hfz35_6 := blk_frozen BK151.out 6
           have hfz35_7 := blk_frozen BK151.out 7
           have hfz35_8 := blk_frozen BK151.out 8
           have hfz35_9 := blk_frozen BK151.out 9
           have hfz35_10 := blk_frozen BK151.out 10
           have hfz35_11 := blk_frozen BK151.out 11
           have hfz35_12 := blk_frozen BK151.out 12
           have hfz35_13 := blk_frozen BK151.out 13
           have hfz35_14 := blk_frozen BK151.out 14
           have hfz35_15 := blk_frozen BK151.out 15
           go_wp2
           go_roundg k2
           case measure => have := HK1.out; have := HK2.out; omega
           case rel => exact ⟨(wrap64 (2 + 1)), (x152001_2), (x152005_2), (ji29), (x152013_2), (by first | rfl | (simp; done) | (simp [*]; done) | (congr 1; unfold wrap64; omega)), H', ⟨by have := HK1.out; have := HK2.out; omega⟩, ⟨by (with_reducible repeat (first | apply Kd.R_alloc | apply Kd.R_drewN | apply Kd.R_drew)); exact Kd.R_mono (Kd.R_far (p := ⟨gb151, 9, none⟩) (Kd.R_mono HO_135000.out (fun k_ hk => (⟨hk, hk⟩ : _ ∧ k_ ≠ gb151))) (fun _ hk => hk.2) (.int .i64 ji29)) (fun _ hk => hk.1)⟩, ⟨by (with_reducible repeat (first | refine blk_drewN ?_ _ | refine blk_drew ?_ | refine blk_alloc ?_ _)); refine blk_far ?_ NB133_151.out _; (with_reducible repeat (first | refine blk_drewN ?_ _ | refine blk_drew ?_ | refine blk_alloc ?_ _)); exact BK133.out⟩, ⟨by (with_reducible repeat (first | refine blk_drewN ?_ _ | refine blk_drew ?_ | refine blk_alloc ?_ _)); refine blk_far ?_ NB134_151.out _; (with_reducible repeat (first | refine blk_drewN ?_ _ | refine blk_drew ?_ | refine blk_alloc ?_ _)); exact BK134.out⟩, ⟨by (with_reducible repeat (first | refine blk_drewN ?_ _ | refine blk_drew ?_ | refine blk_alloc ?_ _)); refine blk_put (cs := #[.int .i64 t135, .int .i64 x152001_2, .int .i64 t137, .int .i64 t138, .int .i64 t139, .int .i64 x152005_2, .int .i64 t141, .int .i64 t142, .int .i64 t143, .int .i64 x152009_2, .int .i64 t145, .int .i64 t146, .int .i64 t147, .int .i64 x152013_2, .int .i64 t149, .int .i64 t150]) ?_ 9 _ rfl; (with_reducible repeat (first | refine blk_drewN ?_ _ | refine blk_drew ?_ | refine blk_alloc ?_ _)); exact BK151.out⟩, ⟨by repeat (first | (with_reducible first | exact HB.out | apply below_alloc | apply pw_below_drewN | apply below_drew1 | refine below_set ?_ GE133.out | refine below_set ?_ GE134.out | refine below_set ?_ GE151.out) | exact HB.out)⟩⟩
          ·rw [if_neg c28] at H
           by_cases c36 : x8_2 = 3
           ·subst c36
            have H1 : (if 3 = 0 then (guichetseat_Bank.l1 k2 a0 a1 x6_1 (wrap64 (3 + 1)) x135000_1 500 100000 t135 (mx x152013_2 9) t137 t138 t139 x152005_2 t141 t142 t143 x152009_2 t145 t146 t147 x152013_2 t149 t150) else (if 3 = 1 then (guichetseat_Bank.l1 k2 a0 a1 x6_1 (wrap64 (3 + 1)) x135000_1 500 100000 t135 x152001_2 t137 t138 t139 (mx x152013_2 9) t141 t142 t143 x152009_2 t145 t146 t147 x152013_2 t149 t150) else (if 3 = 2 then (guichetseat_Bank.l1 k2 a0 a1 x6_1 (wrap64 (3 + 1)) x135000_1 500 100000 t135 x152001_2 t137 t138 t139 x152005_2 t141 t142 t143 (mx x152013_2 9) t145 t146 t147 x152013_2 t149 t150) else (if 3 = 3 then (guichetseat_Bank.l1 k2 a0 a1 x6_1 (wrap64 (3 + 1)) x135000_1 500 100000 t135 x152001_2 t137 t138 t139 x152005_2 t141 t142 t143 x152009_2 t145 t146 t147 (mx x152013_2 9) t149 t150) else (none))))) = some (r1, r2, r3, r4, r5) := by rw [if_pos rfl] at H; exact H
            clear H
            have H := H1
            clear H1
            obtain ⟨ji37, hji37⟩ : ∃ j_ : Int, (mx x152013_2 9) = j_ := ⟨_, rfl⟩
            replace H : (if 3 = 0 then (guichetseat_Bank.l1 k2 a0 a1 x6_1 (wrap64 (3 + 1)) x135000_1 500 100000 t135 ji37 t137 t138 t139 x152005_2 t141 t142 t143 x152009_2 t145 t146 t147 x152013_2 t149 t150) else (if 3 = 1 then (guichetseat_Bank.l1 k2 a0 a1 x6_1 (wrap64 (3 + 1)) x135000_1 500 100000 t135 x152001_2 t137 t138 t139 ji37 t141 t142 t143 x152009_2 t145 t146 t147 x152013_2 t149 t150) else (if 3 = 2 then (guichetseat_Bank.l1 k2 a0 a1 x6_1 (wrap64 (3 + 1)) x135000_1 500 100000 t135 x152001_2 t137 t138 t139 x152005_2 t141 t142 t143 ji37 t145 t146 t147 x152013_2 t149 t150) else (if 3 = 3 then (guichetseat_Bank.l1 k2 a0 a1 x6_1 (wrap64 (3 + 1)) x135000_1 500 100000 t135 x152001_2 t137 t138 t139 x152005_2 t141 t142 t143 x152009_2 t145 t146 t147 ji37 t149 t150) else (none))))) = some (r1, r2, r3, r4, r5) := by first | (rw [hji37] at H; exact H) | (simp only [hji37] at H ⊢; exact H)
            have hji37_ : (if x152013_2 < 9 then 9 else x152013_2) = ji37 := hji37
            have H1 : (if 3 = 1 then (guichetseat_Bank.l1 k2 a0 a1 x6_1 (wrap64 (3 + 1)) x135000_1 500 100000 t135 x152001_2 t137 t138 t139 ji37 t141 t142 t143 x152009_2 t145 t146 t147 x152013_2 t149 t150) else (if 3 = 2 then (guichetseat_Bank.l1 k2 a0 a1 x6_1 (wrap64 (3 + 1)) x135000_1 500 100000 t135 x152001_2 t137 t138 t139 x152005_2 t141 t142 t143 ji37 t145 t146 t147 x152013_2 t149 t150) else (if 3 = 3 then (guichetseat_Bank.l1 k2 a0 a1 x6_1 (wrap64 (3 + 1)) x135000_1 500 100000 t135 x152001_2 t137 t138 t139 x152005_2 t141 t142 t143 x152009_2 t145 t146 t147 ji37 t149 t150) else (none)))) = some (r1, r2, r3, r4, r5) := by rw [if_neg (by decide)] at H; exact H
            clear H
            have H := H1
            clear H1
            have H1 : (if 3 = 2 then (guichetseat_Bank.l1 k2 a0 a1 x6_1 (wrap64 (3 + 1)) x135000_1 500 100000 t135 x152001_2 t137 t138 t139 x152005_2 t141 t142 t143 ji37 t145 t146 t147 x152013_2 t149 t150) else (if 3 = 3 then (guichetseat_Bank.l1 k2 a0 a1 x6_1 (wrap64 (3 + 1)) x135000_1 500 100000 t135 x152001_2 t137 t138 t139 x152005_2 t141 t142 t143 x152009_2 t145 t146 t147 ji37 t149 t150) else (none))) = some (r1, r2, r3, r4, r5) := by rw [if_neg (by decide)] at H; exact H
            clear H
            have H := H1
            clear H1
            have H1 : (if 3 = 3 then (guichetseat_Bank.l1 k2 a0 a1 x6_1 (wrap64 (3 + 1)) x135000_1 500 100000 t135 x152001_2 t137 t138 t139 x152005_2 t141 t142 t143 x152009_2 t145 t146 t147 ji37 t149 t150) else (none)) = some (r1, r2, r3, r4, r5) := by rw [if_neg (by decide)] at H; exact H
            clear H
            have H := H1
            clear H1
            have H1 : (guichetseat_Bank.l1 k2 a0 a1 x6_1 (wrap64 (3 + 1)) x135000_1 500 100000 t135 x152001_2 t137 t138 t139 x152005_2 t141 t142 t143 x152009_2 t145 t146 t147 ji37 t149 t150) = some (r1, r2, r3, r4, r5) := by rw [if_pos rfl] at H; exact H
            clear H
            have H := H1
            clear H1
            have H' := Aside0.mk H
            clear H
            have hnb42 := NB151_133.out
            have hnc42 := NB133_151.out
            have hnb43 := NB151_134.out
            have hnc43 := NB134_151.out
            have hcz44_0 : wr.cell? ⟨gb151, 0, none⟩ = some (.int .i64 t135) := (blk_cell BK151.out 0).trans rfl
            have hcz44_1 : wr.cell? ⟨gb151, 1, none⟩ = some (.int .i64 x152001_2) := (blk_cell BK151.out 1).trans rfl
            have hcz44_2 : wr.cell? ⟨gb151, 2, none⟩ = some (.int .i64 t137) := (blk_cell BK151.out 2).trans rfl
            have hcz44_3 : wr.cell? ⟨gb151, 3, none⟩ = some (.int .i64 t138) := (blk_cell BK151.out 3).trans rfl
            have hcz44_4 : wr.cell? ⟨gb151, 4, none⟩ = some (.int .i64 t139) := (blk_cell BK151.out 4).trans rfl
            have hcz44_5 : wr.cell? ⟨gb151, 5, none⟩ = some (.int .i64 x152005_2) := (blk_cell BK151.out 5).trans rfl
            have hcz44_6 : wr.cell? ⟨gb151, 6, none⟩ = some (.int .i64 t141) := (blk_cell BK151.out 6).trans rfl
            have hcz44_7 : wr.cell? ⟨gb151, 7, none⟩ = some (.int .i64 t142) := (blk_cell BK151.out 7).trans rfl
            have hcz44_8 : wr.cell? ⟨gb151, 8, none⟩ = some (.int .i64 t143) := (blk_cell BK151.out 8).trans rfl
            have hcz44_9 : wr.cell? ⟨gb151, 9, none⟩ = some (.int .i64 x152009_2) := (blk_cell BK151.out 9).trans rfl
            have hcz44_10 : wr.cell? ⟨gb151, 10, none⟩ = some (.int .i64 t145) := (blk_cell BK151.out 10).trans rfl
            have hcz44_11 : wr.cell? ⟨gb151, 11, none⟩ = some (.int .i64 t146) := (blk_cell BK151.out 11).trans rfl
            have hcz44_12 : wr.cell? ⟨gb151, 12, none⟩ = some (.int .i64 t147) := (blk_cell BK151.out 12).trans rfl
            have hcz44_13 : wr.cell? ⟨gb151, 13, none⟩ = some (.int .i64 x152013_2) := (blk_cell BK151.out 13).trans rfl
            have hcz44_14 : wr.cell? ⟨gb151, 14, none⟩ = some (.int .i64 t149) := (blk_cell BK151.out 14).trans rfl
            have hcz44_15 : wr.cell? ⟨gb151, 15, none⟩ = some (.int .i64 t150) := (blk_cell BK151.out 15).trans rfl
            have hfz44_0 := blk_frozen BK151.out 0
            have hfz44_1 := blk_frozen BK151.out 1
            have hfz44_2 := blk_frozen BK151.out 2
            have hfz44_3 := blk_frozen BK151.out 3
            have hfz44_4 := blk_frozen BK151.out 4
            have hfz44_5 := blk_frozen BK151.out 5
            have hfz44_6 := blk_frozen BK151.out 6
            have hfz44_7 := blk_frozen BK151.out 7
            have hfz44_8 := blk_frozen BK151.out 8
            have hfz44_9 := blk_frozen BK151.out 9
            have hfz44_10 := blk_frozen BK151.out 10
            have hfz44_11 := blk_frozen BK151.out 11
            have hfz44_12 := blk_frozen BK151.out 12
            have hfz44_13 := blk_frozen BK151.out 13
            have hfz44_14 := blk_frozen BK151.out 14
            have hfz44_15 := blk_frozen BK151.out 15
            go_wp2
            go_roundg k2
            case measure => have := HK1.out; have := HK2.out; omega
            case rel => exact ⟨(wrap64 (3 + 1)), (x152001_2), (x152005_2), (x152009_2), (ji37), (by first | rfl | (simp; done) | (simp [*]; done) | (congr 1; unfold wrap64; omega)), H', ⟨by have := HK1.out; have := HK2.out; omega⟩, ⟨by (with_reducible repeat (first | apply Kd.R_alloc | apply Kd.R_drewN | apply Kd.R_drew)); exact Kd.R_mono (Kd.R_far (p := ⟨gb151, 13, none⟩) (Kd.R_mono HO_135000.out (fun k_ hk => (⟨hk, hk⟩ : _ ∧ k_ ≠ gb151))) (fun _ hk => hk.2) (.int .i64 ji37)) (fun _ hk => hk.1)⟩, ⟨by (with_reducible repeat (first | refine blk_drewN ?_ _ | refine blk_drew ?_ | refine blk_alloc ?_ _)); refine blk_far ?_ NB133_151.out _; (with_reducible repeat (first | refine blk_drewN ?_ _ | refine blk_drew ?_ | refine blk_alloc ?_ _)); exact BK133.out⟩, ⟨by (with_reducible repeat (first | refine blk_drewN ?_ _ | refine blk_drew ?_ | refine blk_alloc ?_ _)); refine blk_far ?_ NB134_151.out _; (with_reducible repeat (first | refine blk_drewN ?_ _ | refine blk_drew ?_ | refine blk_alloc ?_ _)); exact BK134.out⟩, ⟨by (with_reducible repeat (first | refine blk_drewN ?_ _ | refine blk_drew ?_ | refine blk_alloc ?_ _)); refine blk_put (cs := #[.int .i64 t135, .int .i64 x152001_2, .int .i64 t137, .int .i64 t138, .int .i64 t139, .int .i64 x152005_2, .int .i64 t141, .int .i64 t142, .int .i64 t143, .int .i64 x152009_2, .int .i64 t145, .int .i64 t146, .int .i64 t147, .int .i64 x152013_2, .int .i64 t149, .int .i64 t150]) ?_ 13 _ rfl; (with_reducible repeat (first | refine blk_drewN ?_ _ | refine blk_drew ?_ | refine blk_alloc ?_ _)); exact BK151.out⟩, ⟨by repeat (first | (with_reducible first | exact HB.out | apply below_alloc | apply pw_below_drewN | apply below_drew1 | refine below_set ?_ GE133.out | refine below_set ?_ GE134.out | refine below_set ?_ GE151.out) | exact HB.out)⟩⟩
           ·rw [if_neg c36] at H
            exact absurd H (by simp)
       ·rw [if_neg c14] at H
        have c14b0 : decide (x8_2 < 4) = false := decide_eq_false c14
        clear c14
        by_cases c45 : x135000_1.length < 1099511627776
        ·rw [if_pos c45] at H
         have LMc45 := Aside0.mk c45
         clear c45
         obtain ⟨y152, hy152⟩ : ∃ y_ : List (S31), y_ = (x135000_1 ++ [(⟨(⟨t135, x152001_2, t137, t138⟩ : S30), (⟨t139, x152005_2, t141, t142⟩ : S30), (⟨t143, x152009_2, t145, t146⟩ : S30), (⟨t147, x152013_2, t149, t150⟩ : S30)⟩ : S31)]) := ⟨_, rfl⟩
         replace H : (guichetseat_Bank.l0 k2 a0 a1 (wrap64 (x6_1 + 1)) y152 500 100000) = some (r1, r2, r3, r4, r5) := by first | (rw [hy152]; with_reducible exact H) | (have H2_ := (Option.bind_some _ _).symm.trans H; rw [hy152]; with_reducible exact H2_) | (have H2_ := (Option.bind_some _ _).symm.trans H; with_reducible exact H2_) | with_reducible exact H | (rw [hy152]; exact H) | exact H
         have Ny152 := Aside0.mk hy152
         clear hy152
         have H' := Aside0.mk H
         clear H
         have hnb46 := NB134_133.out
         have hnc46 := NB133_134.out
         have hnb47 := NB134_151.out
         have hnc47 := NB151_134.out
         have hcz48_0 : wr.cell? ⟨gb134, 0, none⟩ = some (u135000) := (blk_cell BK134.out 0).trans rfl
         have hcz48_1 : wr.cell? ⟨gb134, 1, none⟩ = some (.slice none 0 0) := (blk_cell BK134.out 1).trans rfl
         have hcz48_2 : wr.cell? ⟨gb134, 2, none⟩ = some (.slice none 0 0) := (blk_cell BK134.out 2).trans rfl
         have hcz48_3 : wr.cell? ⟨gb134, 3, none⟩ = some (.int .i64 500) := (blk_cell BK134.out 3).trans rfl
         have hcz48_4 : wr.cell? ⟨gb134, 4, none⟩ = some (.int .i64 100000) := (blk_cell BK134.out 4).trans rfl
         have hfz48_0 := blk_frozen BK134.out 0
         have hfz48_1 := blk_frozen BK134.out 1
         have hfz48_2 := blk_frozen BK134.out 2
         have hfz48_3 := blk_frozen BK134.out 3
         have hfz48_4 := blk_frozen BK134.out 4
         have hnb49 := NB151_133.out
         have hnc49 := NB133_151.out
         have hcz50_0 : wr.cell? ⟨gb151, 0, none⟩ = some (.int .i64 t135) := (blk_cell BK151.out 0).trans rfl
         have hcz50_1 : wr.cell? ⟨gb151, 1, none⟩ = some (.int .i64 x152001_2) := (blk_cell BK151.out 1).trans rfl
         have hcz50_2 : wr.cell? ⟨gb151, 2, none⟩ = some (.int .i64 t137) := (blk_cell BK151.out 2).trans rfl
         have hcz50_3 : wr.cell? ⟨gb151, 3, none⟩ = some (.int .i64 t138) := (blk_cell BK151.out 3).trans rfl
         have hcz50_4 : wr.cell? ⟨gb151, 4, none⟩ = some (.int .i64 t139) := (blk_cell BK151.out 4).trans rfl
         have hcz50_5 : wr.cell? ⟨gb151, 5, none⟩ = some (.int .i64 x152005_2) := (blk_cell BK151.out 5).trans rfl
         have hcz50_6 : wr.cell? ⟨gb151, 6, none⟩ = some (.int .i64 t141) := (blk_cell BK151.out 6).trans rfl
         have hcz50_7 : wr.cell? ⟨gb151, 7, none⟩ = some (.int .i64 t142) := (blk_cell BK151.out 7).trans rfl
         have hcz50_8 : wr.cell? ⟨gb151, 8, none⟩ = some (.int .i64 t143) := (blk_cell BK151.out 8).trans rfl
         have hcz50_9 : wr.cell? ⟨gb151, 9, none⟩ = some (.int .i64 x152009_2) := (blk_cell BK151.out 9).trans rfl
         have hcz50_10 : wr.cell? ⟨gb151, 10, none⟩ = some (.int .i64 t145) := (blk_cell BK151.out 10).trans rfl
         have hcz50_11 : wr.cell? ⟨gb151, 11, none⟩ = some (.int .i64 t146) := (blk_cell BK151.out 11).trans rfl
         have hcz50_12 : wr.cell? ⟨gb151, 12, none⟩ = some (.int .i64 t147) := (blk_cell BK151.out 12).trans rfl
         have hcz50_13 : wr.cell? ⟨gb151, 13, none⟩ = some (.int .i64 x152013_2) := (blk_cell BK151.out 13).trans rfl
         have hcz50_14 : wr.cell? ⟨gb151, 14, none⟩ = some (.int .i64 t149) := (blk_cell BK151.out 14).trans rfl
         have hcz50_15 : wr.cell? ⟨gb151, 15, none⟩ = some (.int .i64 t150) := (blk_cell BK151.out 15).trans rfl
         have hfz50_0 := blk_frozen BK151.out 0
         have hfz50_1 := blk_frozen BK151.out 1
         have hfz50_2 := blk_frozen BK151.out 2
         have hfz50_3 := blk_frozen BK151.out 3
         have hfz50_4 := blk_frozen BK151.out 4
         have hfz50_5 := blk_frozen BK151.out 5
         have hfz50_6 := blk_frozen BK151.out 6
         have hfz50_7 := blk_frozen BK151.out 7
         have hfz50_8 := blk_frozen BK151.out 8
         have hfz50_9 := blk_frozen BK151.out 9
         have hfz50_10 := blk_frozen BK151.out 10
         have hfz50_11 := blk_frozen BK151.out 11
         have hfz50_12 := blk_frozen BK151.out 12
         have hfz50_13 := blk_frozen BK151.out 13
         have hfz50_14 := blk_frozen BK151.out 14
         have hfz50_15 := blk_frozen BK151.out 15
         go_wp2_with (first | ((with_reducible refine gate_builtin (b := .append) (xs := #[.tmp 37, .tmp 39]) rfl ?_); at_builtin; refine Kd.R_append k31 (w0 := w) w.heap.size rfl (.tmp 37) (.tmp 39) 22 31 (.agg #[(.int .i64 0), (.int .i64 0), (.int .i64 0), (.int .i64 0), (.int .i64 0), (.int .i64 0), (.int .i64 0), (.int .i64 0), (.int .i64 0), (.int .i64 0), (.int .i64 0), (.int .i64 0), (.int .i64 0), (.int .i64 0), (.int .i64 0), (.int .i64 0)]) 128 rfl Tryd.underlying22 info31 rfl (by decide) (by omega) u135000 x135000_1 (⟨(⟨t135, x152001_2, t137, t138⟩ : S30), (⟨t139, x152005_2, t141, t142⟩ : S30), (⟨t143, x152009_2, t145, t146⟩ : S30), (⟨t147, x152013_2, t149, t150⟩ : S30)⟩ : S31) [.int .i64 t135, .int .i64 x152001_2, .int .i64 t137, .int .i64 t138, .int .i64 t139, .int .i64 x152005_2, .int .i64 t141, .int .i64 t142, .int .i64 t143, .int .i64 x152009_2, .int .i64 t145, .int .i64 t146, .int .i64 t147, .int .i64 x152013_2, .int .i64 t149, .int .i64 t150] (fun k_ => k_ ≠ gb151) (fun _ => False) rfl rfl ?aP (fun _ hk => hk.elim) ?aF ?aO ?aB ?aS ?aL ?_; (case aP => exact k31_mkM _ _ _ (⟨(⟨t135, x152001_2, t137, t138⟩ : S30), (⟨t139, x152005_2, t141, t142⟩ : S30), (⟨t143, x152009_2, t145, t146⟩ : S30), (⟨t147, x152013_2, t149, t150⟩ : S30)⟩ : S31)); (case aB => exact (by repeat (first | (with_reducible first | exact HB.out | apply below_alloc | apply pw_below_drewN | apply below_drew1 | refine below_set ?_ GE133.out | refine below_set ?_ GE134.out | refine below_set ?_ GE151.out) | exact HB.out))); (case aF => exact (fun k_ hk => Kd.freshB (g := gb151) (o := .cells #[.int .i64 t135, .int .i64 x152001_2, .int .i64 t137, .int .i64 t138, .int .i64 t139, .int .i64 x152005_2, .int .i64 t141, .int .i64 t142, .int .i64 t143, .int .i64 x152009_2, .int .i64 t145, .int .i64 t146, .int .i64 t147, .int .i64 x152013_2, .int .i64 t149, .int .i64 t150] 31 (0, 0)) (by (with_reducible repeat (first | refine blk_drewN ?_ _ | refine blk_drew ?_ | refine blk_alloc ?_ _)); exact BK151.out) k_ hk)); (case aO => exact (by (with_reducible repeat (first | apply Kd.R_alloc | apply Kd.R_drewN | apply Kd.R_drew)); exact HO_135000.out)); (case aS => exact (below_size (by repeat (first | (with_reducible first | exact HB.out | apply below_alloc | apply pw_below_drewN | apply below_drew1 | refine below_set ?_ GE133.out | refine below_set ?_ GE134.out | refine below_set ?_ GE151.out) | exact HB.out)))); (case aL => have := LMc45.out; omega); intro v153 w51 ho hb hg hat; (try simp only [Int.reduceToNat] at ho); rw [← Ny152.out] at ho; have n0_ := Aside0.mk (blk_grown (g := gb133) (o := .cells #[.slice none 0 0, .slice none 0 0, .slice none 0 0, .int .i64 0, .int .i64 0] 26 (0, 0)) (by (with_reducible repeat (first | refine blk_drewN ?_ _ | refine blk_drew ?_ | refine blk_alloc ?_ _)); exact BK133.out) hg (Kd.R_ne HO_135000.out BK133.out (by decide))); have n1_ := Aside0.mk (blk_grown (g := gb134) (o := .cells #[u135000, .slice none 0 0, .slice none 0 0, .int .i64 500, .int .i64 100000] 26 (0, 0)) (by (with_reducible repeat (first | refine blk_drewN ?_ _ | refine blk_drew ?_ | refine blk_alloc ?_ _)); exact BK134.out) hg (Kd.R_ne HO_135000.out BK134.out (by decide))); have n2_ := Aside0.mk (blk_grown (g := gb151) (o := .cells #[.int .i64 t135, .int .i64 x152001_2, .int .i64 t137, .int .i64 t138, .int .i64 t139, .int .i64 x152005_2, .int .i64 t141, .int .i64 t142, .int .i64 t143, .int .i64 x152009_2, .int .i64 t145, .int .i64 t146, .int .i64 t147, .int .i64 x152013_2, .int .i64 t149, .int .i64 t150] 31 (0, 0)) (by (with_reducible repeat (first | refine blk_drewN ?_ _ | refine blk_drew ?_ | refine blk_alloc ?_ _)); exact BK151.out) hg (Kd.R_away HO_135000.out (fun _ hk => hk))); have n3_ := Aside0.mk (hb); have n4_ := Aside0.mk (ho); clear BK133; clear BK134; clear BK151; clear HB; clear HO_135000; have BK133 := n0_; have BK134 := n1_; have BK151 := n2_; have HB := n3_; have HO154 := n4_; clear n0_ n1_ n2_ n3_ n4_; clear ho hb hg hat; obtain ⟨Ao52, co52, eo52⟩ := Kd.R_slice HO154.out; subst eo52; have hcz53_0 : w51.cell? ⟨gb134, 0, none⟩ = some (u135000) := (blk_cell BK134.out 0).trans rfl; have hcz53_1 : w51.cell? ⟨gb134, 1, none⟩ = some (.slice none 0 0) := (blk_cell BK134.out 1).trans rfl; have hcz53_2 : w51.cell? ⟨gb134, 2, none⟩ = some (.slice none 0 0) := (blk_cell BK134.out 2).trans rfl; have hcz53_3 : w51.cell? ⟨gb134, 3, none⟩ = some (.int .i64 500) := (blk_cell BK134.out 3).trans rfl; have hcz53_4 : w51.cell? ⟨gb134, 4, none⟩ = some (.int .i64 100000) := (blk_cell BK134.out 4).trans rfl; have hfz53_0 := blk_frozen BK134.out 0; have hfz53_1 := blk_frozen BK134.out 1; have hfz53_2 := blk_frozen BK134.out 2; have hfz53_3 := blk_frozen BK134.out 3; have hfz53_4 := blk_frozen BK134.out 4))
         go_roundg k2
         case measure => have := HK1.out; have := HK2.out; omega
         case rel => exact ⟨(wrap64 (x6_1 + 1)), (y152), (.slice Ao52 y152.length co52), (by first | rfl | (simp; done) | (simp [*]; done) | (congr 1; unfold wrap64; omega)), H', ⟨by have := HK1.out; have := HK2.out; omega⟩, ⟨by (with_reducible repeat (first | apply Kd.R_alloc | apply Kd.R_drewN | apply Kd.R_drew)); exact Kd.R_mono (Kd.R_far (p := ⟨gb134, 0, none⟩) (Kd.R_types HO154.out BK134.out (by decide)) (fun _ hk => hk.2) (.slice Ao52 y152.length co52)) (fun _ hk => trivial)⟩, ⟨by (with_reducible repeat (first | refine blk_drewN ?_ _ | refine blk_drew ?_ | refine blk_alloc ?_ _)); refine blk_far ?_ NB133_134.out _; (with_reducible repeat (first | refine blk_drewN ?_ _ | refine blk_drew ?_ | refine blk_alloc ?_ _)); exact BK133.out⟩, ⟨by (with_reducible repeat (first | refine blk_drewN ?_ _ | refine blk_drew ?_ | refine blk_alloc ?_ _)); refine blk_put (cs := #[u135000, .slice none 0 0, .slice none 0 0, .int .i64 500, .int .i64 100000]) ?_ 0 _ rfl; (with_reducible repeat (first | refine blk_drewN ?_ _ | refine blk_drew ?_ | refine blk_alloc ?_ _)); exact BK134.out⟩, ⟨by repeat (first | (with_reducible first | exact HB.out | apply below_alloc | apply pw_below_drewN | apply below_drew1 | refine below_set ?_ GE133.out | refine below_set ?_ GE134.out | refine below_set ?_ GE151.out) | exact HB.out)⟩⟩
        ·rw [if_neg c45] at H
         exact absurd H (by simp)
    ·rw [if_neg c7] at H
     have c7b0 : decide (x6_1 < (wrap64 ((wrap64 (Int.tmod a0 3)) + 1))) = false := decide_eq_false c7
     clear c7
     have H' := Aside0.mk H
     clear H
     go_wp2
     go_loopg [9] k1 (fun kq v9 w' => ∃ (x9_2 : Int) (x135001_2 : List ByteArray) (x135002_2 : List Int) (u135001 : Value) (u135002 : Value), v9 = .int .u8 x9_2 ∧ Aside0 (guichetseat_Bank.l2 kq a1 x9_2 x135000_1 x135001_2 x135002_2 500 100000 = some (r1, r2, r3, r4, r5)) ∧ Aside0 (kq ≤ k1) ∧ Aside0 (Kd.R k31 31 w' w.heap.size (fun _ => True) u135000 x135000_1) ∧ Aside0 (Kd.R Kd.string 9 w' w.heap.size (fun _ => True) u135001 x135001_2) ∧ Aside0 (Kd.R (Kd.int .i64) 2 w' w.heap.size (fun _ => True) u135002 x135002_2) ∧ Aside0 (w'.heap[gb133]? = some (.cells #[(.slice none 0 0), (.slice none 0 0), (.slice none 0 0), .int .i64 0, .int .i64 0] 26 (0, 0))) ∧ Aside0 (w'.heap[gb134]? = some (.cells #[u135000, u135001, u135002, .int .i64 500, .int .i64 100000] 26 (0, 0))) ∧ Aside0 (Below w.heap.size w w'))
     case atStart => exact ⟨(0), (([] : List ByteArray)), (([] : List Int)), (.slice none 0 0), (.slice none 0 0), (by first | rfl | (simp; done) | (simp [*]; done) | (congr 1; unfold wrap64; omega)), H', ⟨Nat.le_refl _⟩, ⟨by (with_reducible repeat (first | apply Kd.R_alloc | apply Kd.R_drewN | apply Kd.R_drew)); exact HO_135000.out⟩, ⟨by first | exact Kd.R_nil _ _ _ _ _ | exact Kd.N_nil _ _ _ _ _ | exact Kd.V_nil _ _ _ _ _ | exact Kd.Q_nil _ _ _ _ _ | exact Kd.S_nil _ _ _ _ _⟩, ⟨by first | exact Kd.R_nil _ _ _ _ _ | exact Kd.N_nil _ _ _ _ _ | exact Kd.V_nil _ _ _ _ _ | exact Kd.Q_nil _ _ _ _ _ | exact Kd.S_nil _ _ _ _ _⟩, ⟨by (with_reducible repeat (first | refine blk_drewN ?_ _ | refine blk_drew ?_ | refine blk_alloc ?_ _)); exact BK133.out⟩, ⟨by (with_reducible repeat (first | refine blk_drewN ?_ _ | refine blk_drew ?_ | refine blk_alloc ?_ _)); exact BK134.out⟩, ⟨by repeat (first | (with_reducible first | exact HB.out | apply below_alloc | apply pw_below_drewN | apply below_drew1 | refine below_set ?_ GE133.out | refine below_set ?_ GE134.out) | exact HB.out)⟩⟩
     case round =>
      clear H'
      try clear c1
      try clear c2
      try clear p2
      try clear c3
      try clear c4
      try clear c5
      try clear c6
      try clear p6
      try clear c7
      try clear c7b0
      try clear c11
      try clear c12
      try clear c14
      try clear c14b0
      try clear c15
      try clear c16
      try clear c18
      try clear c19
      try clear c21
      try clear c25
      try clear c26
      try clear c28
      try clear c33
      try clear c34
      try clear c36
      try clear c42
      try clear c43
      try clear c45
      try clear c46
      try clear c47
      try clear c49
      try clear hcz13_0
      try clear hcz13_1
      try clear hcz13_10
      try clear hcz13_11
      try clear hcz13_12
      try clear hcz13_13
      try clear hcz13_14
      try clear hcz13_15
      try clear hcz13_2
      try clear hcz13_3
      try clear hcz13_4
      try clear hcz13_5
      try clear hcz13_6
      try clear hcz13_7
      try clear hcz13_8
      try clear hcz13_9
      try clear hcz20_0
      try clear hcz20_1
      try clear hcz20_10
      try clear hcz20_11
      try clear hcz20_12
      try clear hcz20_13
      try clear hcz20_14
      try clear hcz20_15
      try clear hcz20_2
      try clear hcz20_3
      try clear hcz20_4
      try clear hcz20_5
      try clear hcz20_6
      try clear hcz20_7
      try clear hcz20_8
      try clear hcz20_9
      try clear hcz27_0
      try clear hcz27_1
      try clear hcz27_10
      try clear hcz27_11
      try clear hcz27_12
      try clear hcz27_13
      try clear hcz27_14
      try clear hcz27_15
      try clear hcz27_2
      try clear hcz27_3
      try clear hcz27_4
      try clear hcz27_5
      try clear hcz27_6
      try clear hcz27_7
      try clear hcz27_8
      try clear hcz27_9
      try clear hcz35_0
      try clear hcz35_1
      try clear hcz35_10
      try clear hcz35_11
      try clear hcz35_12
      try clear hcz35_13
      try clear hcz35_14
      try clear hcz35_15
      try clear hcz35_2
      try clear hcz35_3
      try clear hcz35_4
      try clear hcz35_5
      try clear hcz35_6
      try clear hcz35_7
      try clear hcz35_8
      try clear hcz35_9
      try clear hcz44_0
      try clear hcz44_1
      try clear hcz44_10
      try clear hcz44_11
      try clear hcz44_12
      try clear hcz44_13
      try clear hcz44_14
      try clear hcz44_15
      try clear hcz44_2
      try clear hcz44_3
      try clear hcz44_4
      try clear hcz44_5
      try clear hcz44_6
      try clear hcz44_7
      try clear hcz44_8
      try clear hcz44_9
      try clear hcz48_0
      try clear hcz48_1
      try clear hcz48_2
      try clear hcz48_3
      try clear hcz48_4
      try clear hcz50_0
      try clear hcz50_1
      try clear hcz50_10
      try clear hcz50_11
      try clear hcz50_12
      try clear hcz50_13
      try clear hcz50_14
      try clear hcz50_15
      try clear hcz50_2
      try clear hcz50_3
      try clear hcz50_4
      try clear hcz50_5
      try clear hcz50_6
      try clear hcz50_7
      try clear hcz50_8
      try clear hcz50_9
      try clear hcz53_0
      try clear hcz53_1
      try clear hcz53_2
      try clear hcz53_3
      try clear hcz53_4
      try clear hcz6_0
      try clear hcz6_1
      try clear hcz6_2
      try clear hcz6_3
      try clear hcz6_4
      try clear hfz13_0
      try clear hfz13_1
      try clear hfz13_10
      try clear hfz13_11
      try clear hfz13_12
      try clear hfz13_13
      try clear hfz13_14
      try clear hfz13_15
      try clear hfz13_2
      try clear hfz13_3
      try clear hfz13_4
      try clear hfz13_5
      try clear hfz13_6
      try clear hfz13_7
      try clear hfz13_8
      try clear hfz13_9
      try clear hfz20_0
      try clear hfz20_1
      try clear hfz20_10
      try clear hfz20_11
      try clear hfz20_12
      try clear hfz20_13
      try clear hfz20_14
      try clear hfz20_15
      try clear hfz20_2
      try clear hfz20_3
      try clear hfz20_4
      try clear hfz20_5
      try clear hfz20_6
      try clear hfz20_7
      try clear hfz20_8
      try clear hfz20_9
      try clear hfz27_0
      try clear hfz27_1
      try clear hfz27_10
      try clear hfz27_11
      try clear hfz27_12
      try clear hfz27_13
      try clear hfz27_14
      try clear hfz27_15
      try clear hfz27_2
      try clear hfz27_3
      try clear hfz27_4
      try clear hfz27_5
      try clear hfz27_6
      try clear hfz27_7
      try clear hfz27_8
      try clear hfz27_9
      try clear hfz35_0
      try clear hfz35_1
      try clear hfz35_10
      try clear hfz35_11
      try clear hfz35_12
      try clear hfz35_13
      try clear hfz35_14
      try clear hfz35_15
      try clear hfz35_2
      try clear hfz35_3
      try clear hfz35_4
      try clear hfz35_5
      try clear hfz35_6
      try clear hfz35_7
      try clear hfz35_8
      try clear hfz35_9
      try clear hfz44_0
      try clear hfz44_1
      try clear hfz44_10
      try clear hfz44_11
      try clear hfz44_12
      try clear hfz44_13
      try clear hfz44_14
      try clear hfz44_15
      try clear hfz44_2
      try clear hfz44_3
      try clear hfz44_4
      try clear hfz44_5
      try clear hfz44_6
      try clear hfz44_7
      try clear hfz44_8
      try clear hfz44_9
      try clear hfz48_0
      try clear hfz48_1
      try clear hfz48_2
      try clear hfz48_3
      try clear hfz48_4
      try clear hfz50_0
      try clear hfz50_1
      try clear hfz50_10
      try clear hfz50_11
      try clear hfz50_12
      try clear hfz50_13
      try clear hfz50_14
      try clear hfz50_15
      try clear hfz50_2
      try clear hfz50_3
      try clear hfz50_4
      try clear hfz50_5
      try clear hfz50_6
      try clear hfz50_7
      try clear hfz50_8
      try clear hfz50_9
      try clear hfz53_0
      try clear hfz53_1
      try clear hfz53_2
      try clear hfz53_3
      try clear hfz53_4
      try clear hfz6_0
      try clear hfz6_1
      try clear hfz6_2
      try clear hfz6_3
      try clear hfz6_4
      try clear p2
      try clear p6
      obtain ⟨x9_2, x135001_2, x135002_2, u135001, u135002, rfl, HA, HK2, HO_135000, HO_135001, HO_135002, BK133, BK134, HB⟩ := hrel
      cases gk with
      | zero => exact absurd HA.out (by simp [guichetseat_Bank.l2])
      | succ k2 =>
       have H := HA.out
       clear HA
       simp only [guichetseat_Bank.l2] at H
       by_cases c54 : x9_2 < 4
       ·rw [if_pos c54] at H
        have c54b0 : decide (x9_2 < 4) = true := decide_eq_true c54
        clear c54
        replace H := Option.bind_eq_some_iff.mp H
        obtain ⟨t155, A550, H⟩ := H
        replace H : (if x135001_2.length < 8796093022208 then (if x135002_2.length < 17592186044416 then (guichetseat_Bank.l2 k2 a1 ((x9_2 + 1) % 256) x135000_1 (x135001_2 ++ [t155]) (x135002_2 ++ [wrap64 ((wrap64 ((wrap64 (x9_2)) * 20000)) + (wrap64 ((wrap64 (a1)) * 100)))]) 500 100000) else (none)) else (none)) = some (r1, r2, r3, r4, r5) := H
        have A55 := Aside0.mk A550
        clear A550
        by_cases c56 : x135001_2.length < 8796093022208
        ·rw [if_pos c56] at H
         have LMc56 := Aside0.mk c56
         clear c56
         obtain ⟨y156, hy156⟩ : ∃ y_ : List ByteArray, y_ = (x135001_2 ++ [t155]) := ⟨_, rfl⟩
         replace H : (if x135002_2.length < 17592186044416 then (guichetseat_Bank.l2 k2 a1 ((x9_2 + 1) % 256) x135000_1 y156 (x135002_2 ++ [wrap64 ((wrap64 ((wrap64 (x9_2)) * 20000)) + (wrap64 ((wrap64 (a1)) * 100)))]) 500 100000) else (none)) = some (r1, r2, r3, r4, r5) := by first | (rw [hy156]; with_reducible exact H) | (have H2_ := (Option.bind_some _ _).symm.trans H; rw [hy156]; with_reducible exact H2_) | (have H2_ := (Option.bind_some _ _).symm.trans H; with_reducible exact H2_) | with_reducible exact H | (rw [hy156]; exact H) | exact H
         have Ny156 := Aside0.mk hy156
         clear hy156
         by_cases c57 : x135002_2.length < 17592186044416
         ·rw [if_pos c57] at H
          have LMc57 := Aside0.mk c57
          clear c57
          obtain ⟨y159, hy159⟩ : ∃ y_ : List Int, y_ = (x135002_2 ++ [wrap64 ((wrap64 ((wrap64 (x9_2)) * 20000)) + (wrap64 ((wrap64 (a1)) * 100)))]) := ⟨_, rfl⟩
          replace H : (guichetseat_Bank.l2 k2 a1 ((x9_2 + 1) % 256) x135000_1 y156 y159 500 100000) = some (r1, r2, r3, r4, r5) := by first | (rw [hy159]; with_reducible exact H) | (have H2_ := (Option.bind_some _ _).symm.trans H; rw [hy159]; with_reducible exact H2_) | (have H2_ := (Option.bind_some _ _).symm.trans H; with_reducible exact H2_) | with_reducible exact H | (rw [hy159]; exact H) | exact H
          have Ny159 := Aside0.mk hy159
          clear hy159
          have H' := Aside0.mk H
          clear H
          try go_wp2
          have n0_ := Aside0.mk (Kd.R_drew HO_135000.out)
          have n1_ := Aside0.mk (Kd.R_drew HO_135001.out)
          have n2_ := Aside0.mk (Kd.R_drew HO_135002.out)
          have n3_ := Aside0.mk (blk_drew BK133.out)
          have n4_ := Aside0.mk (blk_drew BK134.out)
          have n5_ := Aside0.mk (below_drew1 HB.out)
          clear HO_135000
          clear HO_135001
          clear HO_135002
          clear BK133
          clear BK134
          clear HB
          have HO_135000 := n0_
          have HO_135001 := n1_
          have HO_135002 := n2_
          have BK133 := n3_
          have BK134 := n4_
          have HB := n5_
          clear n0_ n1_ n2_ n3_ n4_ n5_
          refine start_ (n := 8) (S := fun w' => w'.cell? ⟨gb134, 0, none⟩ = some (u135000) ∧ w'.cell? ⟨gb134, 1, none⟩ = some (u135001) ∧ w'.cell? ⟨gb134, 2, none⟩ = some (u135002) ∧ w'.cell? ⟨gb134, 3, none⟩ = some (.int .i64 500) ∧ w'.cell? ⟨gb134, 4, none⟩ = some (.int .i64 100000)) (ds := [7]) #[false, false, false, false, false, false, false, false] (by kernel_rfl) rfl rfl ⟨(blk_cell BK134.out 0).trans rfl, (blk_cell BK134.out 1).trans rfl, (blk_cell BK134.out 2).trans rfl, (blk_cell BK134.out 3).trans rfl, (blk_cell BK134.out 4).trans rfl⟩ (fun hHeld => ?_); refine with_tabW guichetseat_Bank.tab14 guichetseat_Bank.bits14 (fun HT_ HW_ => ?_)
          generalize wr.drew = w58 at HO_135000 HO_135001 HO_135002 BK133 BK134 HB hHeld ⊢
          refine pure_ (i := 0) (N := some 46) (v := ?_) (a' := ?_) #[true, false, false, false, false, false, false, false] rfl rfl (any_of HT_.out (by kernel_rfl)) (fun _ _ _ h => h) (Or.inl ⟨by rfl, ?_⟩) ?_ ?_
          rotate_left
          ·intro w'
           go_simp
           with_reducible rfl
          rotate_left
          ·simp only [Act.put, List.setIfInBounds_toArray, List.set_cons_zero, List.set_cons_succ, i64_w, i32_w]
           rfl
          refine pure_ (i := 2) (N := some 48) (v := ?_) (a' := ?_) #[true, false, true, false, false, false, false, false] rfl rfl (any_of HT_.out (by kernel_rfl)) (fun _ _ _ h => h) (Or.inl ⟨by rfl, ?_⟩) ?_ ?_
          rotate_left
          ·intro w'
           go_simp
           with_reducible rfl
          rotate_left
          ·simp only [Act.put, List.setIfInBounds_toArray, List.set_cons_zero, List.set_cons_succ, i64_w, i32_w]
           rfl
          refine take_ (i := 1) (N := some 47) (v := ?_) (a' := ?_) #[true, true, true, false, false, false, false, false] rfl rfl (take_ofW HT_.out HW_.out (by kernel_rfl)) (fun _ _ _ h => h) (Or.inl ⟨by rfl, ?_⟩) hHeld ?_ ?_
          rotate_left
          ·rintro w' ⟨s0, s1, s2, s3, s4⟩
           go_simp
           with_reducible rfl
          rotate_left
          ·simp only [Act.put, List.setIfInBounds_toArray, List.set_cons_zero, List.set_cons_succ, i64_w, i32_w]
           rfl
          refine one_ (i := 3) (N := some 49) #[true, true, true, true, false, false, false, false] rfl rfl (one_of HT_.out (by kernel_rfl)) (by decide) (fun K hK => ?_)
          refine goes_ Tryd.func17 (by kernel_rfl) rfl #[.int .u8 x9_2] (by rfl) rfl rfl (by (try simp only [List.map_toArray, List.map_cons, List.map_nil]); first | done | rfl | (simp only [List.length_drop, List.length_take]; rfl)) ?_
          with_reducible refine (guichetseat_Pan.calls x9_2 t155 _ A55.out).mono ?_
          rintro e w59 ⟨rfl, hb⟩
          refine ⟨_, rfl, ?_⟩
          have n0_ := Aside0.mk (Kd.R_below (by (with_reducible repeat (first | apply Kd.R_alloc | apply Kd.R_drewN | apply Kd.R_drew)); exact HO_135000.out) hb)
          have n1_ := Aside0.mk (Kd.R_below (by (with_reducible repeat (first | apply Kd.R_alloc | apply Kd.R_drewN | apply Kd.R_drew)); exact HO_135001.out) hb)
          have n2_ := Aside0.mk (Kd.R_below (by (with_reducible repeat (first | apply Kd.R_alloc | apply Kd.R_drewN | apply Kd.R_drew)); exact HO_135002.out) hb)
          have n3_ := Aside0.mk (blk_below (g := gb133) (o := .cells #[.slice none 0 0, .slice none 0 0, .slice none 0 0, .int .i64 0, .int .i64 0] 26 (0, 0)) (by (with_reducible repeat (first | refine blk_drewN ?_ _ | refine blk_drew ?_ | refine blk_alloc ?_ _)); exact BK133.out) hb)
          have n4_ := Aside0.mk (blk_below (g := gb134) (o := .cells #[u135000, u135001, u135002, .int .i64 500, .int .i64 100000] 26 (0, 0)) (by (with_reducible repeat (first | refine blk_drewN ?_ _ | refine blk_drew ?_ | refine blk_alloc ?_ _)); exact BK134.out) hb)
          have n5_ := Aside0.mk (below_step (by repeat (first | (with_reducible first | exact HB.out | apply below_alloc | apply pw_below_drewN | apply below_drew1 | refine below_set ?_ GE133.out | refine below_set ?_ GE134.out) | exact HB.out)) hb)
          clear HO_135000
          clear HO_135001
          clear HO_135002
          clear BK133
          clear BK134
          clear HB
          have HO_135000 := n0_
          have HO_135001 := n1_
          have HO_135002 := n2_
          have BK133 := n3_
          have BK134 := n4_
          have HB := n5_
          clear n0_ n1_ n2_ n3_ n4_ n5_
          (try clear hb)
          (try clear hb2)
          (try clear hk)
          (try clear hi)
          refine hK.out _ _ ⟨(blk_cell BK134.out 0).trans rfl, (blk_cell BK134.out 1).trans rfl, (blk_cell BK134.out 2).trans rfl, (blk_cell BK134.out 3).trans rfl, (blk_cell BK134.out 4).trans rfl⟩ (fun hHeld => ?_)
          clear hK K
          refine norm_ (a' := ?_) ?_ ?_
          rotate_left
          ·show Act.put _ (some 49) _ = _
           simp only [Act.put, List.setIfInBounds_toArray, List.set_cons_zero, List.set_cons_succ, i64_w, i32_w]
           rfl
          refine one_ (i := 4) (N := some 50) #[true, true, true, true, true, false, false, false] rfl rfl (one_of HT_.out (by kernel_rfl)) (by decide) (fun K hK => ?_)
          refine value_ (w1 := ?_) (v := ?_) (by rfl) rfl ?_ ?_
          rotate_left 2
          ·go_simp
           constructor
           ·rfl
           ·rfl
          refine hK.out _ _ ⟨(blk_cell (blk_alloc BK134.out _) 0).trans rfl, (blk_cell (blk_alloc BK134.out _) 1).trans rfl, (blk_cell (blk_alloc BK134.out _) 2).trans rfl, (blk_cell (blk_alloc BK134.out _) 3).trans rfl, (blk_cell (blk_alloc BK134.out _) 4).trans rfl⟩ (fun hHeld => ?_)
          clear hK K
          refine norm_ (a' := ?_) ?_ ?_
          rotate_left
          ·show Act.put _ (some 50) _ = _
           simp only [Act.put, List.setIfInBounds_toArray, List.set_cons_zero, List.set_cons_succ, i64_w, i32_w]
           rfl
          refine one_ (i := 5) (N := some 51) #[true, true, true, true, true, true, false, false] rfl rfl (one_of HT_.out (by kernel_rfl)) (by decide) (fun K hK => ?_)
          refine Kd.R_append_step Kd.string (w0 := w) w.heap.size (by rfl) (.tmp 47) (.tmp 50) 23 9 (.string ⟨#[]⟩) 16 rfl Tryd.underlying23 info9 rfl (by decide) (by omega) u135001 x135001_2 t155 [.string t155] (fun _ => True) (fun _ => False) rfl rfl ?aP (fun _ hk => hk.elim) ?aF ?aO ?aB ?aS ?aL ?_
          (case aP => exact rfl)
          (case aB => exact (by repeat (first | (with_reducible first | exact HB.out | apply below_alloc | apply pw_below_drewN | apply below_drew1 | refine below_set ?_ GE133.out | refine below_set ?_ GE134.out) | exact HB.out)))
          (case aF => exact (fun _ _ => trivial))
          (case aO => exact (by (with_reducible repeat (first | apply Kd.R_alloc | apply Kd.R_drewN | apply Kd.R_drew)); exact HO_135001.out))
          (case aS => exact (below_size (by repeat (first | (with_reducible first | exact HB.out | apply below_alloc | apply pw_below_drewN | apply below_drew1 | refine below_set ?_ GE133.out | refine below_set ?_ GE134.out) | exact HB.out))))
          (case aL => have := LMc56.out; omega)
          intro v157 w60 ho hb hg hat
          rw [← Ny156.out] at ho
          have n0_ := Aside0.mk (Kd.R_over' (by (with_reducible repeat (first | apply Kd.R_alloc | apply Kd.R_drewN | apply Kd.R_drew)); exact HO_135000.out) (Kd.R_typed (by (with_reducible repeat (first | apply Kd.R_alloc | apply Kd.R_drewN | apply Kd.R_drew)); exact HO_135001.out)) (by decide) hg)
          have n1_ := Aside0.mk (Kd.R_over' (by (with_reducible repeat (first | apply Kd.R_alloc | apply Kd.R_drewN | apply Kd.R_drew)); exact HO_135002.out) (Kd.R_typed (by (with_reducible repeat (first | apply Kd.R_alloc | apply Kd.R_drewN | apply Kd.R_drew)); exact HO_135001.out)) (by decide) hg)
          have n2_ := Aside0.mk (blk_grown (g := gb133) (o := .cells #[.slice none 0 0, .slice none 0 0, .slice none 0 0, .int .i64 0, .int .i64 0] 26 (0, 0)) (by (with_reducible repeat (first | refine blk_drewN ?_ _ | refine blk_drew ?_ | refine blk_alloc ?_ _)); exact BK133.out) hg (Kd.R_ne HO_135001.out BK133.out (by decide)))
          have n3_ := Aside0.mk (blk_grown (g := gb134) (o := .cells #[u135000, u135001, u135002, .int .i64 500, .int .i64 100000] 26 (0, 0)) (by (with_reducible repeat (first | refine blk_drewN ?_ _ | refine blk_drew ?_ | refine blk_alloc ?_ _)); exact BK134.out) hg (Kd.R_ne HO_135001.out BK134.out (by decide)))
          have n4_ := Aside0.mk (hb)
          have n5_ := Aside0.mk (ho)
          clear HO_135000
          clear HO_135002
          clear BK133
          clear BK134
          clear HB
          clear HO_135001
          have HO_135000 := n0_
          have HO_135002 := n1_
          have BK133 := n2_
          have BK134 := n3_
          have HB := n4_
          have HO158 := n5_
          clear n0_ n1_ n2_ n3_ n4_ n5_
          clear ho hb hg hat
          obtain ⟨Ao61, co61, eo61⟩ := Kd.R_slice HO158.out
          (first | subst eo61 | (injection eo61 with f1_ f2_ f3_; have f4_ := f1_.symm; have f5_ := f3_.symm; clear f1_ f2_ f3_; subst f4_; subst f5_))
          refine hK.out _ _ ⟨(blk_cell BK134.out 0).trans rfl, (blk_cell BK134.out 1).trans rfl, (blk_cell BK134.out 2).trans rfl, (blk_cell BK134.out 3).trans rfl, (blk_cell BK134.out 4).trans rfl⟩ (fun hHeld => ?_)
          clear hK K
          refine norm_ (a' := ?_) ?_ ?_
          rotate_left
          ·show Act.put _ (some 51) _ = _
           simp only [Act.put, List.setIfInBounds_toArray, List.set_cons_zero, List.set_cons_succ, i64_w, i32_w]
           rfl
          refine pure_ (i := 6) (N := some 52) (v := ?_) (a' := ?_) #[true, true, true, true, true, true, true, false] rfl rfl (any_of HT_.out (by kernel_rfl)) (fun _ _ _ h => h) (Or.inl ⟨by rfl, ?_⟩) ?_ ?_
          rotate_left
          ·intro w'
           go_simp
           with_reducible rfl
          rotate_left
          ·simp only [Act.put, List.setIfInBounds_toArray, List.set_cons_zero, List.set_cons_succ, i64_w, i32_w]
           rfl
          refine last_ (i := 7) (N := none) #[true, true, true, true, true, true, true, true] rfl rfl (one_of HT_.out (by kernel_rfl)) (by decide) (fun K hK => ?_)
          have hs62 : w60.cell? ⟨gb134, 1, none⟩ = some (u135001) := (blk_cell BK134.out 1).trans rfl
          have hfs62 := blk_frozen BK134.out 1
          have hns62_0 := NB133_134.out
          have hms62_0 := NB134_133.out
          refine skip_ (w1 := ?_) (by rfl) rfl ?_ ?_
          rotate_left
          ·go_simp
           rfl
          refine hK.out _ _ ?_
          clear hK K
          refine done_ (done_of HT_.out (by kernel_rfl)) ?_
          have hnb63 := NB134_133.out
          have hnc63 := NB133_134.out
          have hcz64_0 : w60.cell? ⟨gb134, 0, none⟩ = some (u135000) := (blk_cell BK134.out 0).trans rfl
          have hcz64_1 : w60.cell? ⟨gb134, 1, none⟩ = some (u135001) := (blk_cell BK134.out 1).trans rfl
          have hcz64_2 : w60.cell? ⟨gb134, 2, none⟩ = some (u135002) := (blk_cell BK134.out 2).trans rfl
          have hcz64_3 : w60.cell? ⟨gb134, 3, none⟩ = some (.int .i64 500) := (blk_cell BK134.out 3).trans rfl
          have hcz64_4 : w60.cell? ⟨gb134, 4, none⟩ = some (.int .i64 100000) := (blk_cell BK134.out 4).trans rfl
          have hfz64_0 := blk_frozen BK134.out 0
          have hfz64_1 := blk_frozen BK134.out 1
          have hfz64_2 := blk_frozen BK134.out 2
          have hfz64_3 := blk_frozen BK134.out 3
          have hfz64_4 := blk_frozen BK134.out 4
          try go_wp2_with (first | ((with_reducible refine gate_builtin (b := .append) (xs := #[.tmp 54, .tmp 62]) rfl ?_); at_builtin; refine Kd.R_append (Kd.int .i64) (w0 := w) w.heap.size rfl (.tmp 54) (.tmp 62) 24 2 (.int .i64 0) 8 rfl Tryd.underlying24 info2 rfl (by decide) (by omega) u135002 x135002_2 (wrap64 ((wrap64 ((wrap64 (x9_2)) * 20000)) + (wrap64 ((wrap64 (a1)) * 100)))) [.int .i64 (wrap64 ((wrap64 ((wrap64 (x9_2)) * 20000)) + (wrap64 ((wrap64 (a1)) * 100))))] (fun _ => True) (fun _ => False) rfl (by first | (go_simp; done) | (go_simp; rfl)) ?aP (fun _ hk => hk.elim) ?aF ?aO ?aB ?aS ?aL ?_; (case aP => exact rfl); (case aB => exact (by repeat (first | (with_reducible first | exact HB.out | apply below_alloc | apply pw_below_drewN | apply below_drew1 | refine below_set ?_ GE133.out | refine below_set ?_ GE134.out) | exact HB.out))); (case aF => exact (fun _ _ => trivial)); (case aO => exact (by (with_reducible repeat (first | apply Kd.R_alloc | apply Kd.R_drewN | apply Kd.R_drew)); exact Kd.R_mono (Kd.R_far (p := ⟨gb134, 1, none⟩) (Kd.R_types HO_135002.out BK134.out (by decide)) (fun _ hk => hk.2) (.slice Ao61 y156.length co61)) (fun _ hk => trivial))); (case aS => exact (below_size (by repeat (first | (with_reducible first | exact HB.out | apply below_alloc | apply pw_below_drewN | apply below_drew1 | refine below_set ?_ GE133.out | refine below_set ?_ GE134.out) | exact HB.out)))); (case aL => have := LMc57.out; omega); intro v160 w65 ho hb hg hat; (try simp only [Int.reduceToNat] at ho); rw [← Ny159.out] at ho; have n0_ := Aside0.mk (Kd.R_over' (by (with_reducible repeat (first | apply Kd.R_alloc | apply Kd.R_drewN | apply Kd.R_drew)); exact (Kd.R_mono (Kd.R_far (p := ⟨gb134, 1, none⟩) (Kd.R_types HO_135000.out BK134.out (by decide)) (fun _ hk => hk.2) (.slice Ao61 y156.length co61)) (fun _ h_ => h_.1))) (Kd.R_typed (by (with_reducible repeat (first | apply Kd.R_alloc | apply Kd.R_drewN | apply Kd.R_drew)); exact (Kd.R_mono (Kd.R_far (p := ⟨gb134, 1, none⟩) (Kd.R_types HO_135002.out BK134.out (by decide)) (fun _ hk => hk.2) (.slice Ao61 y156.length co61)) (fun _ h_ => h_.1)))) (by decide) hg); have n1_ := Aside0.mk (blk_grown (g := gb133) (o := .cells #[.slice none 0 0, .slice none 0 0, .slice none 0 0, .int .i64 0, .int .i64 0] 26 (0, 0)) (by (with_reducible repeat (first | refine blk_drewN ?_ _ | refine blk_drew ?_ | refine blk_alloc ?_ _)); refine blk_far ?_ NB133_134.out _; (with_reducible repeat (first | refine blk_drewN ?_ _ | refine blk_drew ?_ | refine blk_alloc ?_ _)); exact BK133.out) hg (Kd.R_ne HO_135002.out BK133.out (by decide))); have n2_ := Aside0.mk (blk_grown (g := gb134) (o := .cells #[u135000, .slice Ao61 y156.length co61, u135002, .int .i64 500, .int .i64 100000] 26 (0, 0)) (by (with_reducible repeat (first | refine blk_drewN ?_ _ | refine blk_drew ?_ | refine blk_alloc ?_ _)); refine blk_put (cs := #[u135000, u135001, u135002, .int .i64 500, .int .i64 100000]) ?_ 1 _ rfl; (with_reducible repeat (first | refine blk_drewN ?_ _ | refine blk_drew ?_ | refine blk_alloc ?_ _)); exact BK134.out) hg (Kd.R_ne HO_135002.out BK134.out (by decide))); have n3_ := Aside0.mk (Kd.R_over' (by (with_reducible repeat (first | apply Kd.R_alloc | apply Kd.R_drewN | apply Kd.R_drew)); exact (Kd.R_mono (Kd.R_far (p := ⟨gb134, 1, none⟩) (Kd.R_types HO158.out BK134.out (by decide)) (fun _ hk => hk.2) (.slice Ao61 y156.length co61)) (fun _ h_ => h_.1))) (Kd.R_typed (by (with_reducible repeat (first | apply Kd.R_alloc | apply Kd.R_drewN | apply Kd.R_drew)); exact (Kd.R_mono (Kd.R_far (p := ⟨gb134, 1, none⟩) (Kd.R_types HO_135002.out BK134.out (by decide)) (fun _ hk => hk.2) (.slice Ao61 y156.length co61)) (fun _ h_ => h_.1)))) (by decide) hg); have n4_ := Aside0.mk (hb); have n5_ := Aside0.mk (ho); clear HO_135000; clear BK133; clear BK134; clear HO158; clear HB; clear HO_135002; have HO_135000 := n0_; have BK133 := n1_; have BK134 := n2_; have HO158 := n3_; have HB := n4_; have HO161 := n5_; clear n0_ n1_ n2_ n3_ n4_ n5_; clear ho hb hg hat; obtain ⟨Ao66, co66, eo66⟩ := Kd.R_slice HO161.out; subst eo66; have hcz67_0 : w65.cell? ⟨gb134, 0, none⟩ = some (u135000) := (blk_cell BK134.out 0).trans rfl; have hcz67_1 : w65.cell? ⟨gb134, 1, none⟩ = some (.slice Ao61 y156.length co61) := (blk_cell BK134.out 1).trans rfl; have hcz67_2 : w65.cell? ⟨gb134, 2, none⟩ = some (u135002) := (blk_cell BK134.out 2).trans rfl; have hcz67_3 : w65.cell? ⟨gb134, 3, none⟩ = some (.int .i64 500) := (blk_cell BK134.out 3).trans rfl; have hcz67_4 : w65.cell? ⟨gb134, 4, none⟩ = some (.int .i64 100000) := (blk_cell BK134.out 4).trans rfl; have hfz67_0 := blk_frozen BK134.out 0; have hfz67_1 := blk_frozen BK134.out 1; have hfz67_2 := blk_frozen BK134.out 2; have hfz67_3 := blk_frozen BK134.out 3; have hfz67_4 := blk_frozen BK134.out 4))
          go_roundg k2
          case measure => have := HK1.out; have := HK2.out; omega
          case rel => exact ⟨((x9_2 + 1) % 256), (y156), (y159), (.slice Ao61 y156.length co61), (.slice Ao66 y159.length co66), (by first | rfl | (simp; done) | (simp [*]; done) | (congr 1; unfold wrap64; omega)), H', ⟨by have := HK1.out; have := HK2.out; omega⟩, ⟨by (with_reducible repeat (first | apply Kd.R_alloc | apply Kd.R_drewN | apply Kd.R_drew)); exact Kd.R_mono (Kd.R_far (p := ⟨gb134, 2, none⟩) (Kd.R_types HO_135000.out BK134.out (by decide)) (fun _ hk => hk.2) (.slice Ao66 y159.length co66)) (fun _ hk => trivial)⟩, ⟨by (with_reducible repeat (first | apply Kd.R_alloc | apply Kd.R_drewN | apply Kd.R_drew)); exact Kd.R_mono (Kd.R_far (p := ⟨gb134, 2, none⟩) (Kd.R_types HO158.out BK134.out (by decide)) (fun _ hk => hk.2) (.slice Ao66 y159.length co66)) (fun _ hk => trivial)⟩, ⟨by (with_reducible repeat (first | apply Kd.R_alloc | apply Kd.R_drewN | apply Kd.R_drew)); exact Kd.R_mono (Kd.R_far (p := ⟨gb134, 2, none⟩) (Kd.R_types HO161.out BK134.out (by decide)) (fun _ hk => hk.2) (.slice Ao66 y159.length co66)) (fun _ hk => trivial)⟩, ⟨by (with_reducible repeat (first | refine blk_drewN ?_ _ | refine blk_drew ?_ | refine blk_alloc ?_ _)); refine blk_far ?_ NB133_134.out _; (with_reducible repeat (first | refine blk_drewN ?_ _ | refine blk_drew ?_ | refine blk_alloc ?_ _)); exact BK133.out⟩, ⟨by (with_reducible repeat (first | refine blk_drewN ?_ _ | refine blk_drew ?_ | refine blk_alloc ?_ _)); refine blk_put (cs := #[u135000, .slice Ao61 y156.length co61, u135002, .int .i64 500, .int .i64 100000]) ?_ 2 _ rfl; (with_reducible repeat (first | refine blk_drewN ?_ _ | refine blk_drew ?_ | refine blk_alloc ?_ _)); exact BK134.out⟩, ⟨by repeat (first | (with_reducible first | exact HB.out | apply below_alloc | apply pw_below_drewN | apply below_drew1 | refine below_set ?_ GE133.out | refine below_set ?_ GE134.out) | exact HB.out)⟩⟩
         ·rw [if_neg c57] at H
          exact absurd H (by simp)
        ·rw [if_neg c56] at H
         exact absurd H (by simp)
       ·rw [if_neg c54] at H
        have c54b0 : decide (x9_2 < 4) = false := decide_eq_false c54
        clear c54
        simp only [Option.some.injEq, Prod.mk.injEq] at H
        obtain ⟨rfl, rfl, rfl, rfl, rfl⟩ := H
        have hnb68 := NB134_133.out
        have hnc68 := NB133_134.out
        have hcz69_0 : wr.cell? ⟨gb134, 0, none⟩ = some (u135000) := (blk_cell BK134.out 0).trans rfl
        have hcz69_1 : wr.cell? ⟨gb134, 1, none⟩ = some (u135001) := (blk_cell BK134.out 1).trans rfl
        have hcz69_2 : wr.cell? ⟨gb134, 2, none⟩ = some (u135002) := (blk_cell BK134.out 2).trans rfl
        have hcz69_3 : wr.cell? ⟨gb134, 3, none⟩ = some (.int .i64 500) := (blk_cell BK134.out 3).trans rfl
        have hcz69_4 : wr.cell? ⟨gb134, 4, none⟩ = some (.int .i64 100000) := (blk_cell BK134.out 4).trans rfl
        have hfz69_0 := blk_frozen BK134.out 0
        have hfz69_1 := blk_frozen BK134.out 1
        have hfz69_2 := blk_frozen BK134.out 2
        have hfz69_3 := blk_frozen BK134.out 3
        have hfz69_4 := blk_frozen BK134.out 4
        obtain ⟨Ao70, co70, eo70⟩ := Kd.R_slice HO_135000.out
        subst eo70
        have hcz71_0 : wr.cell? ⟨gb133, 0, none⟩ = some (.slice none 0 0) := (blk_cell BK133.out 0).trans rfl
        have hcz71_1 : wr.cell? ⟨gb133, 1, none⟩ = some (.slice none 0 0) := (blk_cell BK133.out 1).trans rfl
        have hcz71_2 : wr.cell? ⟨gb133, 2, none⟩ = some (.slice none 0 0) := (blk_cell BK133.out 2).trans rfl
        have hcz71_3 : wr.cell? ⟨gb133, 3, none⟩ = some (.int .i64 0) := (blk_cell BK133.out 3).trans rfl
        have hcz71_4 : wr.cell? ⟨gb133, 4, none⟩ = some (.int .i64 0) := (blk_cell BK133.out 4).trans rfl
        have hfz71_0 := blk_frozen BK133.out 0
        have hfz71_1 := blk_frozen BK133.out 1
        have hfz71_2 := blk_frozen BK133.out 2
        have hfz71_3 := blk_frozen BK133.out 3
        have hfz71_4 := blk_frozen BK133.out 4
        obtain ⟨Ao72, co72, eo72⟩ := Kd.R_slice HO_135001.out
        subst eo72
        obtain ⟨Ao73, co73, eo73⟩ := Kd.R_slice HO_135002.out
        subst eo73
        go_wp2
        refine bodyPost_ret (results_cell_row rfl _ _ gb133 26 #[.slice Ao70 x135000_1.length co70, .slice Ao72 x135001_2.length co72, .slice Ao73 x135002_2.length co73, .int .i64 500, .int .i64 100000] (0, 0) _ rfl (by (with_reducible repeat (first | refine blk_drewN ?_ _ | refine blk_drew ?_ | refine blk_alloc ?_ _)); refine blk_put (cs := #[.slice Ao70 x135000_1.length co70, .slice Ao72 x135001_2.length co72, .slice Ao73 x135002_2.length co73, .int .i64 500, .int .i64 0]) ?_ 4 _ rfl; (with_reducible repeat (first | refine blk_drewN ?_ _ | refine blk_drew ?_ | refine blk_alloc ?_ _)); refine blk_put (cs := #[.slice Ao70 x135000_1.length co70, .slice Ao72 x135001_2.length co72, .slice Ao73 x135002_2.length co73, .int .i64 0, .int .i64 0]) ?_ 3 _ rfl; (with_reducible repeat (first | refine blk_drewN ?_ _ | refine blk_drew ?_ | refine blk_alloc ?_ _)); refine blk_put (cs := #[.slice Ao70 x135000_1.length co70, .slice Ao72 x135001_2.length co72, .slice none 0 0, .int .i64 0, .int .i64 0]) ?_ 2 _ rfl; (with_reducible repeat (first | refine blk_drewN ?_ _ | refine blk_drew ?_ | refine blk_alloc ?_ _)); refine blk_put (cs := #[.slice Ao70 x135000_1.length co70, .slice none 0 0, .slice none 0 0, .int .i64 0, .int .i64 0]) ?_ 1 _ rfl; (with_reducible repeat (first | refine blk_drewN ?_ _ | refine blk_drew ?_ | refine blk_alloc ?_ _)); refine blk_put (cs := #[.slice none 0 0, .slice none 0 0, .slice none 0 0, .int .i64 0, .int .i64 0]) ?_ 0 _ rfl; (with_reducible repeat (first | refine blk_drewN ?_ _ | refine blk_drew ?_ | refine blk_alloc ?_ _)); exact BK133.out) Tryd.underlying26 rfl (by kernel_rfl)) rfl ?_
        exact ⟨_, _, _, by first | rfl | (simp [errW_none, errW_some] <;> rfl) | (simp [*, errW_none, errW_some] <;> rfl), by (with_reducible repeat (first | apply Kd.R_alloc | apply Kd.R_drewN | apply Kd.R_drew)); exact Kd.R_mono (Kd.R_far (p := ⟨gb133, 4, none⟩) (Kd.R_far (p := ⟨gb133, 3, none⟩) (Kd.R_far (p := ⟨gb133, 2, none⟩) (Kd.R_far (p := ⟨gb133, 1, none⟩) (Kd.R_far (p := ⟨gb133, 0, none⟩) (Kd.R_types HO_135000.out BK133.out (by decide)) (fun _ hk => hk.2) (.slice Ao70 x135000_1.length co70)) (fun _ hk => hk.2) (.slice Ao72 x135001_2.length co72)) (fun _ hk => hk.2) (.slice Ao73 x135002_2.length co73)) (fun _ hk => hk.2) (.int .i64 500)) (fun _ hk => hk.2) (.int .i64 100000)) (fun _ hk => trivial), by (with_reducible repeat (first | apply Kd.R_alloc | apply Kd.R_drewN | apply Kd.R_drew)); exact Kd.R_mono (Kd.R_far (p := ⟨gb133, 4, none⟩) (Kd.R_far (p := ⟨gb133, 3, none⟩) (Kd.R_far (p := ⟨gb133, 2, none⟩) (Kd.R_far (p := ⟨gb133, 1, none⟩) (Kd.R_far (p := ⟨gb133, 0, none⟩) (Kd.R_types HO_135001.out BK133.out (by decide)) (fun _ hk => hk.2) (.slice Ao70 x135000_1.length co70)) (fun _ hk => hk.2) (.slice Ao72 x135001_2.length co72)) (fun _ hk => hk.2) (.slice Ao73 x135002_2.length co73)) (fun _ hk => hk.2) (.int .i64 500)) (fun _ hk => hk.2) (.int .i64 100000)) (fun _ hk => trivial), by (with_reducible repeat (first | apply Kd.R_alloc | apply Kd.R_drewN | apply Kd.R_drew)); exact Kd.R_mono (Kd.R_far (p := ⟨gb133, 4, none⟩) (Kd.R_far (p := ⟨gb133, 3, none⟩) (Kd.R_far (p := ⟨gb133, 2, none⟩) (Kd.R_far (p := ⟨gb133, 1, none⟩) (Kd.R_far (p := ⟨gb133, 0, none⟩) (Kd.R_types HO_135002.out BK133.out (by decide)) (fun _ hk => hk.2) (.slice Ao70 x135000_1.length co70)) (fun _ hk => hk.2) (.slice Ao72 x135001_2.length co72)) (fun _ hk => hk.2) (.slice Ao73 x135002_2.length co73)) (fun _ hk => hk.2) (.int .i64 500)) (fun _ hk => hk.2) (.int .i64 100000)) (fun _ hk => trivial), by repeat (first | (with_reducible first | exact HB.out | apply below_alloc | apply pw_below_drewN | apply below_drew1 | refine below_set ?_ GE133.out | refine below_set ?_ GE134.out) | exact HB.out)⟩

end Go.Proofs.YtjheabcffkbfkaaDoor.X
