-- Written by a program of this session (wip/xprint.py) for this claim.
import Derived.Test.YtjheabcffkbfkaaDoorX0
namespace Go.Proofs.YtjheabcffkbfkaaDoor.X
open Go.RowKit Go.Proofs.YtjheabcffkbfkaaDoorW.PrintWords Go.Proofs.YtjheabcffkbfkaaDoorW.PrintLast Go.Proofs.YtjheabcffkbfkaaDoorW.PrintMore
attribute [local go_sem] max2_int min2_int max_two min_two max_three min_three max_four min_four   -- for this text's walks alone
set_option linter.unusedVariables false
set_option linter.unusedSimpArgs false

/-! ### guichetseat_Cass: function 16 -/
def guichetseat_Cass.l0 : Nat → Int → Int → Int → Int → Int → Int → Int → Int → Int → Int → Int → Int → Int → Int → Int → Int → Int → Int → Int → Int → Int → Int → Option (Int × Int × Int × Int × Int × Int × Int × Int × Int × Int × Int × Int × Int × Int × Int × Int)
  | 0, _, _, _, _, _, _, _, _, _, _, _, _, _, _, _, _, _, _, _, _, _, _ => none
  | k + 1, x0, x5, x112000, x112001, x112002, x112003, x113000, x113001, x113002, x113003, x113004, x113005, x113006, x113007, x113008, x113009, x113010, x113011, x113012, x113013, x113014, x113015 => if x5 < 4 then (if x5 = 0 then ((some (([0, 1, 2, 5, 9, 30, 100, 10000] : List Int) : List Int)).bind fun y113 => (if 0 ≤ (Int.tmod (wrap64 (((Int.tdiv x0 4) % 256) + (wrap64 (3 * x5)))) 8) then (if (Int.tmod (wrap64 (((Int.tdiv x0 4) % 256) + (wrap64 (3 * x5)))) 8) < (y113.length : Int) then (if x5 = 0 then (guichetseat_Cass.l0 k x0 (wrap64 (x5 + 1)) x112000 x112001 x112002 x112003 (mx x112000 1) (rd y113 (Int.tmod (wrap64 (((Int.tdiv x0 4) % 256) + (wrap64 (3 * x5)))) 8)) 0 0 x113004 x113005 x113006 x113007 x113008 x113009 x113010 x113011 x113012 x113013 x113014 x113015) else (if x5 = 1 then (guichetseat_Cass.l0 k x0 (wrap64 (x5 + 1)) x112000 x112001 x112002 x112003 x113000 x113001 x113002 x113003 (mx x112000 1) (rd y113 (Int.tmod (wrap64 (((Int.tdiv x0 4) % 256) + (wrap64 (3 * x5)))) 8)) 0 0 x113008 x113009 x113010 x113011 x113012 x113013 x113014 x113015) else (if x5 = 2 then (guichetseat_Cass.l0 k x0 (wrap64 (x5 + 1)) x112000 x112001 x112002 x112003 x113000 x113001 x113002 x113003 x113004 x113005 x113006 x113007 (mx x112000 1) (rd y113 (Int.tmod (wrap64 (((Int.tdiv x0 4) % 256) + (wrap64 (3 * x5)))) 8)) 0 0 x113012 x113013 x113014 x113015) else (if x5 = 3 then (guichetseat_Cass.l0 k x0 (wrap64 (x5 + 1)) x112000 x112001 x112002 x112003 x113000 x113001 x113002 x113003 x113004 x113005 x113006 x113007 x113008 x113009 x113010 x113011 (mx x112000 1) (rd y113 (Int.tmod (wrap64 (((Int.tdiv x0 4) % 256) + (wrap64 (3 * x5)))) 8)) 0 0) else (none))))) else (none)) else (none))) else (if x5 = 1 then ((some (([0, 1, 2, 5, 9, 30, 100, 10000] : List Int) : List Int)).bind fun y117 => (if 0 ≤ (Int.tmod (wrap64 (((Int.tdiv x0 4) % 256) + (wrap64 (3 * x5)))) 8) then (if (Int.tmod (wrap64 (((Int.tdiv x0 4) % 256) + (wrap64 (3 * x5)))) 8) < (y117.length : Int) then (if x5 = 0 then (guichetseat_Cass.l0 k x0 (wrap64 (x5 + 1)) x112000 x112001 x112002 x112003 (mx x112001 1) (rd y117 (Int.tmod (wrap64 (((Int.tdiv x0 4) % 256) + (wrap64 (3 * x5)))) 8)) 0 0 x113004 x113005 x113006 x113007 x113008 x113009 x113010 x113011 x113012 x113013 x113014 x113015) else (if x5 = 1 then (guichetseat_Cass.l0 k x0 (wrap64 (x5 + 1)) x112000 x112001 x112002 x112003 x113000 x113001 x113002 x113003 (mx x112001 1) (rd y117 (Int.tmod (wrap64 (((Int.tdiv x0 4) % 256) + (wrap64 (3 * x5)))) 8)) 0 0 x113008 x113009 x113010 x113011 x113012 x113013 x113014 x113015) else (if x5 = 2 then (guichetseat_Cass.l0 k x0 (wrap64 (x5 + 1)) x112000 x112001 x112002 x112003 x113000 x113001 x113002 x113003 x113004 x113005 x113006 x113007 (mx x112001 1) (rd y117 (Int.tmod (wrap64 (((Int.tdiv x0 4) % 256) + (wrap64 (3 * x5)))) 8)) 0 0 x113012 x113013 x113014 x113015) else (if x5 = 3 then (guichetseat_Cass.l0 k x0 (wrap64 (x5 + 1)) x112000 x112001 x112002 x112003 x113000 x113001 x113002 x113003 x113004 x113005 x113006 x113007 x113008 x113009 x113010 x113011 (mx x112001 1) (rd y117 (Int.tmod (wrap64 (((Int.tdiv x0 4) % 256) + (wrap64 (3 * x5)))) 8)) 0 0) else (none))))) else (none)) else (none))) else (if x5 = 2 then ((some (([0, 1, 2, 5, 9, 30, 100, 10000] : List Int) : List Int)).bind fun y121 => (if 0 ≤ (Int.tmod (wrap64 (((Int.tdiv x0 4) % 256) + (wrap64 (3 * x5)))) 8) then (if (Int.tmod (wrap64 (((Int.tdiv x0 4) % 256) + (wrap64 (3 * x5)))) 8) < (y121.length : Int) then (if x5 = 0 then (guichetseat_Cass.l0 k x0 (wrap64 (x5 + 1)) x112000 x112001 x112002 x112003 (mx x112002 1) (rd y121 (Int.tmod (wrap64 (((Int.tdiv x0 4) % 256) + (wrap64 (3 * x5)))) 8)) 0 0 x113004 x113005 x113006 x113007 x113008 x113009 x113010 x113011 x113012 x113013 x113014 x113015) else (if x5 = 1 then (guichetseat_Cass.l0 k x0 (wrap64 (x5 + 1)) x112000 x112001 x112002 x112003 x113000 x113001 x113002 x113003 (mx x112002 1) (rd y121 (Int.tmod (wrap64 (((Int.tdiv x0 4) % 256) + (wrap64 (3 * x5)))) 8)) 0 0 x113008 x113009 x113010 x113011 x113012 x113013 x113014 x113015) else (if x5 = 2 then (guichetseat_Cass.l0 k x0 (wrap64 (x5 + 1)) x112000 x112001 x112002 x112003 x113000 x113001 x113002 x113003 x113004 x113005 x113006 x113007 (mx x112002 1) (rd y121 (Int.tmod (wrap64 (((Int.tdiv x0 4) % 256) + (wrap64 (3 * x5)))) 8)) 0 0 x113012 x113013 x113014 x113015) else (if x5 = 3 then (guichetseat_Cass.l0 k x0 (wrap64 (x5 + 1)) x112000 x112001 x112002 x112003 x113000 x113001 x113002 x113003 x113004 x113005 x113006 x113007 x113008 x113009 x113010 x113011 (mx x112002 1) (rd y121 (Int.tmod (wrap64 (((Int.tdiv x0 4) % 256) + (wrap64 (3 * x5)))) 8)) 0 0) else (none))))) else (none)) else (none))) else (if x5 = 3 then ((some (([0, 1, 2, 5, 9, 30, 100, 10000] : List Int) : List Int)).bind fun y125 => (if 0 ≤ (Int.tmod (wrap64 (((Int.tdiv x0 4) % 256) + (wrap64 (3 * x5)))) 8) then (if (Int.tmod (wrap64 (((Int.tdiv x0 4) % 256) + (wrap64 (3 * x5)))) 8) < (y125.length : Int) then (if x5 = 0 then (guichetseat_Cass.l0 k x0 (wrap64 (x5 + 1)) x112000 x112001 x112002 x112003 (mx x112003 1) (rd y125 (Int.tmod (wrap64 (((Int.tdiv x0 4) % 256) + (wrap64 (3 * x5)))) 8)) 0 0 x113004 x113005 x113006 x113007 x113008 x113009 x113010 x113011 x113012 x113013 x113014 x113015) else (if x5 = 1 then (guichetseat_Cass.l0 k x0 (wrap64 (x5 + 1)) x112000 x112001 x112002 x112003 x113000 x113001 x113002 x113003 (mx x112003 1) (rd y125 (Int.tmod (wrap64 (((Int.tdiv x0 4) % 256) + (wrap64 (3 * x5)))) 8)) 0 0 x113008 x113009 x113010 x113011 x113012 x113013 x113014 x113015) else (if x5 = 2 then (guichetseat_Cass.l0 k x0 (wrap64 (x5 + 1)) x112000 x112001 x112002 x112003 x113000 x113001 x113002 x113003 x113004 x113005 x113006 x113007 (mx x112003 1) (rd y125 (Int.tmod (wrap64 (((Int.tdiv x0 4) % 256) + (wrap64 (3 * x5)))) 8)) 0 0 x113012 x113013 x113014 x113015) else (if x5 = 3 then (guichetseat_Cass.l0 k x0 (wrap64 (x5 + 1)) x112000 x112001 x112002 x112003 x113000 x113001 x113002 x113003 x113004 x113005 x113006 x113007 x113008 x113009 x113010 x113011 (mx x112003 1) (rd y125 (Int.tmod (wrap64 (((Int.tdiv x0 4) % 256) + (wrap64 (3 * x5)))) 8)) 0 0) else (none))))) else (none)) else (none))) else (none))))) else (some (x113000, x113001, x113002, x113003, x113004, x113005, x113006, x113007, x113008, x113009, x113010, x113011, x113012, x113013, x113014, x113015))
def guichetseat_Cass.f (k : Nat) (a0 : Int) : Option (Int × Int × Int × Int × Int × Int × Int × Int × Int × Int × Int × Int × Int × Int × Int × Int) := (some (([(⟨1000, 2000, 5000, 10000⟩ : S78), (⟨2000, 5000, 0, 0⟩ : S78), (⟨500, 500, 700, 1100⟩ : S78), (⟨300, 1000, 1000, 2500⟩ : S78)] : List (S78)) : List (S78))).bind fun y107 => (if 0 ≤ (Int.tmod a0 4) then (if (Int.tmod a0 4) < (y107.length : Int) then (guichetseat_Cass.l0 k a0 0 ((rd_T78 y107 (Int.tmod a0 4)).f0) ((rd_T78 y107 (Int.tmod a0 4)).f1) ((rd_T78 y107 (Int.tmod a0 4)).f2) ((rd_T78 y107 (Int.tmod a0 4)).f3) 0 0 0 0 0 0 0 0 0 0 0 0 0 0 0 0) else (none)) else (none))
theorem guichetseat_Cass.mono_l : ∀ k, (∀ y0 y1 y2 y3 y4 y5 y6 y7 y8 y9 y10 y11 y12 y13 y14 y15 y16 y17 y18 y19 y20 y21, LeO (guichetseat_Cass.l0 k y0 y1 y2 y3 y4 y5 y6 y7 y8 y9 y10 y11 y12 y13 y14 y15 y16 y17 y18 y19 y20 y21) (guichetseat_Cass.l0 (k + 1) y0 y1 y2 y3 y4 y5 y6 y7 y8 y9 y10 y11 y12 y13 y14 y15 y16 y17 y18 y19 y20 y21))
  | 0 => fun _ _ _ _ _ _ _ _ _ _ _ _ _ _ _ _ _ _ _ _ _ _ r h => by simp [guichetseat_Cass.l0] at h
  | k + 1 => by
    have ih0 := guichetseat_Cass.mono_l k
    · intro y0 y1 y2 y3 y4 y5 y6 y7 y8 y9 y10 y11 y12 y13 y14 y15 y16 y17 y18 y19 y20 y21
      unfold guichetseat_Cass.l0
      repeat' first
      | (with_reducible exact ih0 _ _ _ _ _ _ _ _ _ _ _ _ _ _ _ _ _ _ _ _ _ _)
      | (with_reducible exact LeO.refl _)
      | (with_reducible exact LeO.none _)
      | (with_reducible refine LeO.ite ?_ ?_)
      | (with_reducible refine LeO.bind ?_ (fun _ => ?_))
      | exact ih0 _ _ _ _ _ _ _ _ _ _ _ _ _ _ _ _ _ _ _ _ _ _
      | exact LeO.none _
      | refine LeO.ite ?_ ?_
      | refine LeO.bind ?_ (fun _ => ?_)
theorem guichetseat_Cass.mono : ∀ a0 k, LeO (guichetseat_Cass.f k a0) (guichetseat_Cass.f (k + 1) a0) := by
  intro a0 k
  have ih0 := guichetseat_Cass.mono_l k
  unfold guichetseat_Cass.f
  repeat' first
      | (with_reducible exact ih0 _ _ _ _ _ _ _ _ _ _ _ _ _ _ _ _ _ _ _ _ _ _)
      | (with_reducible exact LeO.refl _)
      | (with_reducible exact LeO.none _)
      | (with_reducible refine LeO.ite ?_ ?_)
      | (with_reducible refine LeO.bind ?_ (fun _ => ?_))
      | exact ih0 _ _ _ _ _ _ _ _ _ _ _ _ _ _ _ _ _ _ _ _ _ _
      | exact LeO.none _
      | refine LeO.ite ?_ ?_
      | refine LeO.bind ?_ (fun _ => ?_)
def guichetseat_Cass.T6 : Bool × List (List Nat × List Nat) := (true, [([], []), ([], []), ([1], [1]), ([2], [2]), ([3], [3]), ([], []), ([], []), ([6], [6]), ([7], [7]), ([], []), ([9], [9]), ([8, 10], [8, 10]), ([11], [11]), ([5, 12], [5, 12]), ([13], [13]), ([4, 14], [4, 14]), ([0, 0, 1, 2, 3, 4, 5, 6, 7, 8, 9, 10, 11, 12, 13, 14, 15], [0]), ([16, 15, 0, 1, 2, 3, 4, 5, 6, 7, 8, 9, 10, 11, 12, 13, 14, 15], [15, 16])])
def guichetseat_Cass.B6 : List Nat := [0, 0, 2, 6, 14, 0, 0, 64, 192, 0, 512, 1984, 4032, 8160, 16352, 32766, 65535, 131071]
theorem guichetseat_Cass.tab6 : rtab .any (opsOf Tryd.f16 6) = guichetseat_Cass.T6 := by kernel_rfl
theorem guichetseat_Cass.bits6 : waitsOk guichetseat_Cass.T6.2 guichetseat_Cass.B6 = true := by kernel_rfl
set_option maxHeartbeats 8000000 in
set_option maxRecDepth 100000 in
theorem guichetseat_Cass.calls (k : Nat) (a0 : Int) (r1 : Int) (r2 : Int) (r3 : Int) (r4 : Int) (r5 : Int) (r6 : Int) (r7 : Int) (r8 : Int) (r9 : Int) (r10 : Int) (r11 : Int) (r12 : Int) (r13 : Int) (r14 : Int) (r15 : Int) (r16 : Int) (w : World) (h : guichetseat_Cass.f k a0 = some (r1, r2, r3, r4, r5, r6, r7, r8, r9, r10, r11, r12, r13, r14, r15, r16)) :
    Calls Tryd.prog 16 #[.int .u8 a0] w fun e w' => e = .returned (.agg #[.int .i64 r1, .int .i64 r2, .int .i64 r3, .int .i64 r4, .int .i64 r5, .int .i64 r6, .int .i64 r7, .int .i64 r8, .int .i64 r9, .int .i64 r10, .int .i64 r11, .int .i64 r12, .int .i64 r13, .int .i64 r14, .int .i64 r15, .int .i64 r16]) ∧ Below w.heap.size w w' := by
  have hu31 := Tryd.underlying31
  have hu78 := Tryd.underlying78
  have hu30 := Tryd.underlying30
  have HB := Aside0.mk (Below.refl w.heap.size w)
  have H : ((some (([(⟨1000, 2000, 5000, 10000⟩ : S78), (⟨2000, 5000, 0, 0⟩ : S78), (⟨500, 500, 700, 1100⟩ : S78), (⟨300, 1000, 1000, 2500⟩ : S78)] : List (S78)) : List (S78))).bind fun y107 => (if 0 ≤ (Int.tmod a0 4) then (if (Int.tmod a0 4) < (y107.length : Int) then (guichetseat_Cass.l0 k a0 0 ((rd_T78 y107 (Int.tmod a0 4)).f0) ((rd_T78 y107 (Int.tmod a0 4)).f1) ((rd_T78 y107 (Int.tmod a0 4)).f2) ((rd_T78 y107 (Int.tmod a0 4)).f3) 0 0 0 0 0 0 0 0 0 0 0 0 0 0 0 0) else (none)) else (none))) = some (r1, r2, r3, r4, r5, r6, r7, r8, r9, r10, r11, r12, r13, r14, r15, r16) := h
  clear h
  obtain ⟨y107, hy107⟩ : ∃ y_ : List (S78), y_ = (([(⟨1000, 2000, 5000, 10000⟩ : S78), (⟨2000, 5000, 0, 0⟩ : S78), (⟨500, 500, 700, 1100⟩ : S78), (⟨300, 1000, 1000, 2500⟩ : S78)] : List (S78))) := ⟨_, rfl⟩
  replace H : (if 0 ≤ (Int.tmod a0 4) then (if (Int.tmod a0 4) < (y107.length : Int) then (guichetseat_Cass.l0 k a0 0 ((rd_T78 y107 (Int.tmod a0 4)).f0) ((rd_T78 y107 (Int.tmod a0 4)).f1) ((rd_T78 y107 (Int.tmod a0 4)).f2) ((rd_T78 y107 (Int.tmod a0 4)).f3) 0 0 0 0 0 0 0 0 0 0 0 0 0 0 0 0) else (none)) else (none)) = some (r1, r2, r3, r4, r5, r6, r7, r8, r9, r10, r11, r12, r13, r14, r15, r16) := by first | (rw [hy107]; with_reducible exact H) | (have H2_ := (Option.bind_some _ _).symm.trans H; rw [hy107]; with_reducible exact H2_) | (have H2_ := (Option.bind_some _ _).symm.trans H; with_reducible exact H2_) | with_reducible exact H | (rw [hy107]; exact H) | exact H
  have Ny107 := Aside0.mk hy107
  clear hy107
  obtain ⟨ji2, hji2⟩ : ∃ j_ : Int, (Int.tmod a0 4) = j_ := ⟨_, rfl⟩
  replace H : (if 0 ≤ (ji2) then (if (ji2) < (y107.length : Int) then (guichetseat_Cass.l0 k a0 0 ((rd_T78 y107 (ji2)).f0) ((rd_T78 y107 (ji2)).f1) ((rd_T78 y107 (ji2)).f2) ((rd_T78 y107 (ji2)).f3) 0 0 0 0 0 0 0 0 0 0 0 0 0 0 0 0) else (none)) else (none)) = some (r1, r2, r3, r4, r5, r6, r7, r8, r9, r10, r11, r12, r13, r14, r15, r16) := by first | (rw [hji2] at H; exact H) | (simp only [hji2] at H ⊢; exact H)
  by_cases c3 : 0 ≤ (ji2)
  ·rw [if_pos c3] at H
   have c3b0 : decide (0 ≤ (ji2)) = true := decide_eq_true c3
   clear c3
   by_cases c4 : (ji2) < (y107.length : Int)
   ·rw [if_pos c4] at H
    have c4b0 : decide ((ji2) < (y107.length : Int)) = true := decide_eq_true c4
    clear c4
    have H' := Aside0.mk H
    clear H
    go_enter Tryd.func16, Tryd.ntmps16
    go_wp2_with (first | ((with_reducible refine gate_dst (N := 2) rfl ?_); refine box_event ?hg (N := 2) ?hd (cs := #[.int .i64 0, .int .i64 0, .int .i64 0, .int .i64 0, .int .i64 0, .int .i64 0, .int .i64 0, .int .i64 0, .int .i64 0, .int .i64 0, .int .i64 0, .int .i64 0, .int .i64 0, .int .i64 0, .int .i64 0, .int .i64 0]) (t := 31) ?hr ?_; (case hd => rfl); (case hg => rfl); (case hr => first | (go_simp; done) | (go_simp; rfl)); intro gb106 hg w5 hbox hb; have n0_ := Aside0.mk (below_step (by repeat (first | (with_reducible first | exact HB.out | apply below_alloc | apply pw_below_drewN | apply below_drew1) | exact HB.out)) hb); have n1_ := Aside0.mk (hbox); have n2_ := Aside0.mk ((by rw [hg]; exact (below_size (by repeat (first | (with_reducible first | exact HB.out | apply below_alloc | apply pw_below_drewN | apply below_drew1) | exact HB.out))) : w.heap.size ≤ gb106)); have n3_ := Aside0.mk ((by rw [hg]; exact (below_size (by repeat (first | (with_reducible first | exact HB.out | apply below_alloc | apply pw_below_drewN | apply below_drew1) | exact HB.out))) : w.heap.size ≤ gb106)); clear HB; have HB := n0_; have BK106 := n1_; have GW106 := n2_; have GE106 := n3_; clear n0_ n1_ n2_ n3_; clear hb hbox hg) | ((with_reducible refine gate_dst (N := 10) rfl ?_); refine Kd.R_lit k78 _ 78 ?hg (N := 10) ?hd (xs := ([(⟨1000, 2000, 5000, 10000⟩ : S78), (⟨2000, 5000, 0, 0⟩ : S78), (⟨500, 500, 700, 1100⟩ : S78), (⟨300, 1000, 1000, 2500⟩ : S78)] : List (S78))) (inner := [.int .i64 1000, .int .i64 2000, .int .i64 5000, .int .i64 10000, .int .i64 2000, .int .i64 5000, .int .i64 0, .int .i64 0, .int .i64 500, .int .i64 500, .int .i64 700, .int .i64 1100, .int .i64 300, .int .i64 1000, .int .i64 1000, .int .i64 2500]) (ok := fun _ => True) (okp := fun _ => True) ?hr ?hp (fun _ hk => hk) trivial (Below.refl _ _) (Nat.le_refl _) (by simp) ?_; (case hd => rfl); (case hg => rfl); (case hr => first | (go_simp; done) | (go_simp; rfl)); (case hp => exact (Reps.c4 (show Kd.M k78 _ _ _ (⟨1000, 2000, 5000, 10000⟩ : S78) [.int .i64 1000, .int .i64 2000, .int .i64 5000, .int .i64 10000] from (k78_mkM _ _ _ (⟨1000, 2000, 5000, 10000⟩ : S78) )) (Reps.c4 (show Kd.M k78 _ _ _ (⟨2000, 5000, 0, 0⟩ : S78) [.int .i64 2000, .int .i64 5000, .int .i64 0, .int .i64 0] from (k78_mkM _ _ _ (⟨2000, 5000, 0, 0⟩ : S78) )) (Reps.c4 (show Kd.M k78 _ _ _ (⟨500, 500, 700, 1100⟩ : S78) [.int .i64 500, .int .i64 500, .int .i64 700, .int .i64 1100] from (k78_mkM _ _ _ (⟨500, 500, 700, 1100⟩ : S78) )) (Reps.c4 (show Kd.M k78 _ _ _ (⟨300, 1000, 1000, 2500⟩ : S78) [.int .i64 300, .int .i64 1000, .int .i64 1000, .int .i64 2500] from (k78_mkM _ _ _ (⟨300, 1000, 1000, 2500⟩ : S78) )) (Reps.none _ _)))))); intro v108 w6 ho7 hb hg_ hnew_; clear hg_ hnew_; (first | rw [← Ny107.out] at ho7 | (simp only [Int.reduceToNat] at ho7; rw [← Ny107.out] at ho7)); have n0_ := Aside0.mk (Kd.R_lower ho7 (below_size (by repeat (first | (with_reducible first | exact HB.out | apply below_alloc | apply pw_below_drewN | apply below_drew1 | refine below_set ?_ GE106.out) | exact HB.out)))); have n1_ := Aside0.mk (blk_below (g := gb106) (o := .cells #[.int .i64 0, .int .i64 0, .int .i64 0, .int .i64 0, .int .i64 0, .int .i64 0, .int .i64 0, .int .i64 0, .int .i64 0, .int .i64 0, .int .i64 0, .int .i64 0, .int .i64 0, .int .i64 0, .int .i64 0, .int .i64 0] 31 (0, 0)) (by (with_reducible repeat (first | refine blk_drewN ?_ _ | refine blk_drew ?_ | refine blk_alloc ?_ _)); exact BK106.out) hb); have n2_ := Aside0.mk (below_step (by repeat (first | (with_reducible first | exact HB.out | apply below_alloc | apply pw_below_drewN | apply below_drew1 | refine below_set ?_ GE106.out) | exact HB.out)) hb); clear BK106; clear HB; have HO109 := n0_; have BK106 := n1_; have HB := n2_; clear n0_ n1_ n2_; clear hb ho7; obtain ⟨Ao8, co8, eo8⟩ := Kd.R_slice HO109.out; subst eo8; have p110 : 0 ≤ ((ji2) : Int) := of_decide_eq_true (by first | (with_reducible assumption) | assumption); have q110 : (ji2) < (y107.length : Int) := of_decide_eq_true (by first | (with_reducible assumption) | assumption); obtain ⟨ad110, e110, hx110_0, hx110_1, hx110_2, hx110_3⟩ := at_T78 (Kd.R_reads' HO109.out).2.2 (ji2) p110 q110; cases e110; replace p110 := eq_true p110; replace q110 := eq_true q110) | ((with_reducible refine gate_dst (N := 3) rfl ?_); refine box_event ?hg (N := 3) ?hd (cs := #[.int .i64 0, .int .i64 0, .int .i64 0, .int .i64 0]) (t := 78) ?hr ?_; (case hd => rfl); (case hg => rfl); (case hr => first | (go_simp; done) | (go_simp; rfl)); intro gb111 hg w9 hbox hb; have n0_ := Aside0.mk (Kd.R_below (Kd.R_elderB (by (with_reducible repeat (first | apply Kd.R_alloc | apply Kd.R_drewN | apply Kd.R_drew)); exact HO109.out) gb111 (Nat.le_of_eq hg.symm)) hb); have n1_ := Aside0.mk (blk_below (g := gb106) (o := .cells #[.int .i64 0, .int .i64 0, .int .i64 0, .int .i64 0, .int .i64 0, .int .i64 0, .int .i64 0, .int .i64 0, .int .i64 0, .int .i64 0, .int .i64 0, .int .i64 0, .int .i64 0, .int .i64 0, .int .i64 0, .int .i64 0] 31 (0, 0)) (by (with_reducible repeat (first | refine blk_drewN ?_ _ | refine blk_drew ?_ | refine blk_alloc ?_ _)); exact BK106.out) hb); have n2_ := Aside0.mk (below_step (by repeat (first | (with_reducible first | exact HB.out | apply below_alloc | apply pw_below_drewN | apply below_drew1 | refine below_set ?_ GE106.out) | exact HB.out)) hb); have n3_ := Aside0.mk (hbox); have n4_ := Aside0.mk ((by rw [hg]; exact (below_size (by repeat (first | (with_reducible first | exact HB.out | apply below_alloc | apply pw_below_drewN | apply below_drew1 | refine below_set ?_ GE106.out) | exact HB.out))) : w.heap.size ≤ gb111)); have n5_ := Aside0.mk ((by rw [hg]; exact (below_size (by repeat (first | (with_reducible first | exact HB.out | apply below_alloc | apply pw_below_drewN | apply below_drew1 | refine below_set ?_ GE106.out) | exact HB.out))) : w.heap.size ≤ gb111)); have n6_ := Aside0.mk ((by rw [hg]; exact Nat.ne_of_lt (blk_lt (g := gb106) (o := .cells #[.int .i64 0, .int .i64 0, .int .i64 0, .int .i64 0, .int .i64 0, .int .i64 0, .int .i64 0, .int .i64 0, .int .i64 0, .int .i64 0, .int .i64 0, .int .i64 0, .int .i64 0, .int .i64 0, .int .i64 0, .int .i64 0] 31 (0, 0)) (by (with_reducible repeat (first | refine blk_drewN ?_ _ | refine blk_drew ?_ | refine blk_alloc ?_ _)); exact BK106.out)) : gb106 ≠ gb111)); have n7_ := Aside0.mk ((by rw [hg]; exact Nat.ne_of_gt (blk_lt (g := gb106) (o := .cells #[.int .i64 0, .int .i64 0, .int .i64 0, .int .i64 0, .int .i64 0, .int .i64 0, .int .i64 0, .int .i64 0, .int .i64 0, .int .i64 0, .int .i64 0, .int .i64 0, .int .i64 0, .int .i64 0, .int .i64 0, .int .i64 0] 31 (0, 0)) (by (with_reducible repeat (first | refine blk_drewN ?_ _ | refine blk_drew ?_ | refine blk_alloc ?_ _)); exact BK106.out)) : gb111 ≠ gb106)); clear HO109; clear BK106; clear HB; have HO109 := n0_; have BK106 := n1_; have HB := n2_; have BK111 := n3_; have GW111 := n4_; have GE111 := n5_; have NB106_111 := n6_; have NB111_106 := n7_; clear n0_ n1_ n2_ n3_ n4_ n5_ n6_ n7_; clear hb hbox hg; have hnb10 := NB111_106.out; have hnc10 := NB106_111.out; have hcz11_0 : w9.cell? ⟨gb111, 0, none⟩ = some (.int .i64 0) := (blk_cell BK111.out 0).trans rfl; have hcz11_1 : w9.cell? ⟨gb111, 1, none⟩ = some (.int .i64 0) := (blk_cell BK111.out 1).trans rfl; have hcz11_2 : w9.cell? ⟨gb111, 2, none⟩ = some (.int .i64 0) := (blk_cell BK111.out 2).trans rfl; have hcz11_3 : w9.cell? ⟨gb111, 3, none⟩ = some (.int .i64 0) := (blk_cell BK111.out 3).trans rfl; have hfz11_0 := blk_frozen BK111.out 0; have hfz11_1 := blk_frozen BK111.out 1; have hfz11_2 := blk_frozen BK111.out 2; have hfz11_3 := blk_frozen BK111.out 3) | ((with_reducible refine gate_dst (N := 4) rfl ?_); refine box_event ?hg (N := 4) ?hd (cs := #[.int .i64 0, .int .i64 0, .int .i64 0, .int .i64 0, .int .i64 0, .int .i64 0, .int .i64 0, .int .i64 0, .int .i64 0, .int .i64 0, .int .i64 0, .int .i64 0, .int .i64 0, .int .i64 0, .int .i64 0, .int .i64 0]) (t := 31) ?hr ?_; (case hd => rfl); (case hg => rfl); (case hr => first | (go_simp; done) | (go_simp; rfl)); intro gb112 hg w12 hbox hb; have n0_ := Aside0.mk (Kd.R_below (by (with_reducible repeat (first | apply Kd.R_alloc | apply Kd.R_drewN | apply Kd.R_drew)); exact (Kd.R_mono (Kd.R_far (p := ⟨gb111, 3, none⟩) (Kd.R_far (p := ⟨gb111, 2, none⟩) (Kd.R_far (p := ⟨gb111, 1, none⟩) (Kd.R_far (p := ⟨gb111, 0, none⟩) (Kd.R_mono HO109.out (fun k_ hk => (⟨hk, hk.2⟩ : _ ∧ k_ ≠ gb111))) (fun _ hk => hk.2) (.int .i64 ((rd_T78 y107 (ji2)).f0))) (fun _ hk => hk.2) (.int .i64 ((rd_T78 y107 (ji2)).f1))) (fun _ hk => hk.2) (.int .i64 ((rd_T78 y107 (ji2)).f2))) (fun _ hk => hk.2) (.int .i64 ((rd_T78 y107 (ji2)).f3))) (fun _ h_ => h_.1))) hb); have n1_ := Aside0.mk (blk_below (g := gb106) (o := .cells #[.int .i64 0, .int .i64 0, .int .i64 0, .int .i64 0, .int .i64 0, .int .i64 0, .int .i64 0, .int .i64 0, .int .i64 0, .int .i64 0, .int .i64 0, .int .i64 0, .int .i64 0, .int .i64 0, .int .i64 0, .int .i64 0] 31 (0, 0)) (by (with_reducible repeat (first | refine blk_drewN ?_ _ | refine blk_drew ?_ | refine blk_alloc ?_ _)); refine blk_far ?_ NB106_111.out _; (with_reducible repeat (first | refine blk_drewN ?_ _ | refine blk_drew ?_ | refine blk_alloc ?_ _)); refine blk_far ?_ NB106_111.out _; (with_reducible repeat (first | refine blk_drewN ?_ _ | refine blk_drew ?_ | refine blk_alloc ?_ _)); refine blk_far ?_ NB106_111.out _; (with_reducible repeat (first | refine blk_drewN ?_ _ | refine blk_drew ?_ | refine blk_alloc ?_ _)); refine blk_far ?_ NB106_111.out _; (with_reducible repeat (first | refine blk_drewN ?_ _ | refine blk_drew ?_ | refine blk_alloc ?_ _)); exact BK106.out) hb); have n2_ := Aside0.mk (blk_below (g := gb111) (o := .cells #[.int .i64 ((rd_T78 y107 (ji2)).f0), .int .i64 ((rd_T78 y107 (ji2)).f1), .int .i64 ((rd_T78 y107 (ji2)).f2), .int .i64 ((rd_T78 y107 (ji2)).f3)] 78 (0, 0)) (by (with_reducible repeat (first | refine blk_drewN ?_ _ | refine blk_drew ?_ | refine blk_alloc ?_ _)); refine blk_put (cs := #[.int .i64 ((rd_T78 y107 (ji2)).f0), .int .i64 ((rd_T78 y107 (ji2)).f1), .int .i64 ((rd_T78 y107 (ji2)).f2), .int .i64 0]) ?_ 3 _ rfl; (with_reducible repeat (first | refine blk_drewN ?_ _ | refine blk_drew ?_ | refine blk_alloc ?_ _)); refine blk_put (cs := #[.int .i64 ((rd_T78 y107 (ji2)).f0), .int .i64 ((rd_T78 y107 (ji2)).f1), .int .i64 0, .int .i64 0]) ?_ 2 _ rfl; (with_reducible repeat (first | refine blk_drewN ?_ _ | refine blk_drew ?_ | refine blk_alloc ?_ _)); refine blk_put (cs := #[.int .i64 ((rd_T78 y107 (ji2)).f0), .int .i64 0, .int .i64 0, .int .i64 0]) ?_ 1 _ rfl; (with_reducible repeat (first | refine blk_drewN ?_ _ | refine blk_drew ?_ | refine blk_alloc ?_ _)); refine blk_put (cs := #[.int .i64 0, .int .i64 0, .int .i64 0, .int .i64 0]) ?_ 0 _ rfl; (with_reducible repeat (first | refine blk_drewN ?_ _ | refine blk_drew ?_ | refine blk_alloc ?_ _)); exact BK111.out) hb); have n3_ := Aside0.mk (below_step (by repeat (first | (with_reducible first | exact HB.out | apply below_alloc | apply pw_below_drewN | apply below_drew1 | refine below_set ?_ GE106.out | refine below_set ?_ GE111.out) | exact HB.out)) hb); have n4_ := Aside0.mk (hbox); have n5_ := Aside0.mk ((by rw [hg]; exact (below_size (by repeat (first | (with_reducible first | exact HB.out | apply below_alloc | apply pw_below_drewN | apply below_drew1 | refine below_set ?_ GE106.out | refine below_set ?_ GE111.out) | exact HB.out))) : w.heap.size ≤ gb112)); have n6_ := Aside0.mk ((by rw [hg]; exact (below_size (by repeat (first | (with_reducible first | exact HB.out | apply below_alloc | apply pw_below_drewN | apply below_drew1 | refine below_set ?_ GE106.out | refine below_set ?_ GE111.out) | exact HB.out))) : w.heap.size ≤ gb112)); have n7_ := Aside0.mk ((by rw [hg]; exact Nat.ne_of_lt (blk_lt (g := gb106) (o := .cells #[.int .i64 0, .int .i64 0, .int .i64 0, .int .i64 0, .int .i64 0, .int .i64 0, .int .i64 0, .int .i64 0, .int .i64 0, .int .i64 0, .int .i64 0, .int .i64 0, .int .i64 0, .int .i64 0, .int .i64 0, .int .i64 0] 31 (0, 0)) (by (with_reducible repeat (first | refine blk_drewN ?_ _ | refine blk_drew ?_ | refine blk_alloc ?_ _)); refine blk_far ?_ NB106_111.out _; (with_reducible repeat (first | refine blk_drewN ?_ _ | refine blk_drew ?_ | refine blk_alloc ?_ _)); refine blk_far ?_ NB106_111.out _; (with_reducible repeat (first | refine blk_drewN ?_ _ | refine blk_drew ?_ | refine blk_alloc ?_ _)); refine blk_far ?_ NB106_111.out _; (with_reducible repeat (first | refine blk_drewN ?_ _ | refine blk_drew ?_ | refine blk_alloc ?_ _)); refine blk_far ?_ NB106_111.out _; (with_reducible repeat (first | refine blk_drewN ?_ _ | refine blk_drew ?_ | refine blk_alloc ?_ _)); exact BK106.out)) : gb106 ≠ gb112)); have n8_ := Aside0.mk ((by rw [hg]; exact Nat.ne_of_gt (blk_lt (g := gb106) (o := .cells #[.int .i64 0, .int .i64 0, .int .i64 0, .int .i64 0, .int .i64 0, .int .i64 0, .int .i64 0, .int .i64 0, .int .i64 0, .int .i64 0, .int .i64 0, .int .i64 0, .int .i64 0, .int .i64 0, .int .i64 0, .int .i64 0] 31 (0, 0)) (by (with_reducible repeat (first | refine blk_drewN ?_ _ | refine blk_drew ?_ | refine blk_alloc ?_ _)); refine blk_far ?_ NB106_111.out _; (with_reducible repeat (first | refine blk_drewN ?_ _ | refine blk_drew ?_ | refine blk_alloc ?_ _)); refine blk_far ?_ NB106_111.out _; (with_reducible repeat (first | refine blk_drewN ?_ _ | refine blk_drew ?_ | refine blk_alloc ?_ _)); refine blk_far ?_ NB106_111.out _; (with_reducible repeat (first | refine blk_drewN ?_ _ | refine blk_drew ?_ | refine blk_alloc ?_ _)); refine blk_far ?_ NB106_111.out _; (with_reducible repeat (first | refine blk_drewN ?_ _ | refine blk_drew ?_ | refine blk_alloc ?_ _)); exact BK106.out)) : gb112 ≠ gb106)); have n9_ := Aside0.mk ((by rw [hg]; exact Nat.ne_of_lt (blk_lt (g := gb111) (o := .cells #[.int .i64 ((rd_T78 y107 (ji2)).f0), .int .i64 ((rd_T78 y107 (ji2)).f1), .int .i64 ((rd_T78 y107 (ji2)).f2), .int .i64 ((rd_T78 y107 (ji2)).f3)] 78 (0, 0)) (by (with_reducible repeat (first | refine blk_drewN ?_ _ | refine blk_drew ?_ | refine blk_alloc ?_ _)); refine blk_put (cs := #[.int .i64 ((rd_T78 y107 (ji2)).f0), .int .i64 ((rd_T78 y107 (ji2)).f1), .int .i64 ((rd_T78 y107 (ji2)).f2), .int .i64 0]) ?_ 3 _ rfl; (with_reducible repeat (first | refine blk_drewN ?_ _ | refine blk_drew ?_ | refine blk_alloc ?_ _)); refine blk_put (cs := #[.int .i64 ((rd_T78 y107 (ji2)).f0), .int .i64 ((rd_T78 y107 (ji2)).f1), .int .i64 0, .int .i64 0]) ?_ 2 _ rfl; (with_reducible repeat (first | refine blk_drewN ?_ _ | refine blk_drew ?_ | refine blk_alloc ?_ _)); refine blk_put (cs := #[.int .i64 ((rd_T78 y107 (ji2)).f0), .int .i64 0, .int .i64 0, .int .i64 0]) ?_ 1 _ rfl; (with_reducible repeat (first | refine blk_drewN ?_ _ | refine blk_drew ?_ | refine blk_alloc ?_ _)); refine blk_put (cs := #[.int .i64 0, .int .i64 0, .int .i64 0, .int .i64 0]) ?_ 0 _ rfl; (with_reducible repeat (first | refine blk_drewN ?_ _ | refine blk_drew ?_ | refine blk_alloc ?_ _)); exact BK111.out)) : gb111 ≠ gb112)); have n10_ := Aside0.mk ((by rw [hg]; exact Nat.ne_of_gt (blk_lt (g := gb111) (o := .cells #[.int .i64 ((rd_T78 y107 (ji2)).f0), .int .i64 ((rd_T78 y107 (ji2)).f1), .int .i64 ((rd_T78 y107 (ji2)).f2), .int .i64 ((rd_T78 y107 (ji2)).f3)] 78 (0, 0)) (by (with_reducible repeat (first | refine blk_drewN ?_ _ | refine blk_drew ?_ | refine blk_alloc ?_ _)); refine blk_put (cs := #[.int .i64 ((rd_T78 y107 (ji2)).f0), .int .i64 ((rd_T78 y107 (ji2)).f1), .int .i64 ((rd_T78 y107 (ji2)).f2), .int .i64 0]) ?_ 3 _ rfl; (with_reducible repeat (first | refine blk_drewN ?_ _ | refine blk_drew ?_ | refine blk_alloc ?_ _)); refine blk_put (cs := #[.int .i64 ((rd_T78 y107 (ji2)).f0), .int .i64 ((rd_T78 y107 (ji2)).f1), .int .i64 0, .int .i64 0]) ?_ 2 _ rfl; (with_reducible repeat (first | refine blk_drewN ?_ _ | refine blk_drew ?_ | refine blk_alloc ?_ _)); refine blk_put (cs := #[.int .i64 ((rd_T78 y107 (ji2)).f0), .int .i64 0, .int .i64 0, .int .i64 0]) ?_ 1 _ rfl; (with_reducible repeat (first | refine blk_drewN ?_ _ | refine blk_drew ?_ | refine blk_alloc ?_ _)); refine blk_put (cs := #[.int .i64 0, .int .i64 0, .int .i64 0, .int .i64 0]) ?_ 0 _ rfl; (with_reducible repeat (first | refine blk_drewN ?_ _ | refine blk_drew ?_ | refine blk_alloc ?_ _)); exact BK111.out)) : gb112 ≠ gb111)); clear HO109; clear BK106; clear BK111; clear HB; have HO109 := n0_; have BK106 := n1_; have BK111 := n2_; have HB := n3_; have BK112 := n4_; have GW112 := n5_; have GE112 := n6_; have NB106_112 := n7_; have NB112_106 := n8_; have NB111_112 := n9_; have NB112_111 := n10_; clear n0_ n1_ n2_ n3_ n4_ n5_ n6_ n7_ n8_ n9_ n10_; clear hb hbox hg))
    go_loopg [5] k (fun kq v5 w' => ∃ (x5_1 : Int) (x113000_1 : Int) (x113001_1 : Int) (x113002_1 : Int) (x113003_1 : Int) (x113004_1 : Int) (x113005_1 : Int) (x113006_1 : Int) (x113007_1 : Int) (x113008_1 : Int) (x113009_1 : Int) (x113010_1 : Int) (x113011_1 : Int) (x113012_1 : Int) (x113013_1 : Int) (x113014_1 : Int) (x113015_1 : Int), v5 = .int .i64 x5_1 ∧ Aside0 (guichetseat_Cass.l0 kq a0 x5_1 ((rd_T78 y107 (ji2)).f0) ((rd_T78 y107 (ji2)).f1) ((rd_T78 y107 (ji2)).f2) ((rd_T78 y107 (ji2)).f3) x113000_1 x113001_1 x113002_1 x113003_1 x113004_1 x113005_1 x113006_1 x113007_1 x113008_1 x113009_1 x113010_1 x113011_1 x113012_1 x113013_1 x113014_1 x113015_1 = some (r1, r2, r3, r4, r5, r6, r7, r8, r9, r10, r11, r12, r13, r14, r15, r16)) ∧ Aside0 (kq ≤ k) ∧ Aside0 (w'.heap[gb106]? = some (.cells #[.int .i64 0, .int .i64 0, .int .i64 0, .int .i64 0, .int .i64 0, .int .i64 0, .int .i64 0, .int .i64 0, .int .i64 0, .int .i64 0, .int .i64 0, .int .i64 0, .int .i64 0, .int .i64 0, .int .i64 0, .int .i64 0] 31 (0, 0))) ∧ Aside0 (w'.heap[gb111]? = some (.cells #[.int .i64 ((rd_T78 y107 (ji2)).f0), .int .i64 ((rd_T78 y107 (ji2)).f1), .int .i64 ((rd_T78 y107 (ji2)).f2), .int .i64 ((rd_T78 y107 (ji2)).f3)] 78 (0, 0))) ∧ Aside0 (w'.heap[gb112]? = some (.cells #[.int .i64 x113000_1, .int .i64 x113001_1, .int .i64 x113002_1, .int .i64 x113003_1, .int .i64 x113004_1, .int .i64 x113005_1, .int .i64 x113006_1, .int .i64 x113007_1, .int .i64 x113008_1, .int .i64 x113009_1, .int .i64 x113010_1, .int .i64 x113011_1, .int .i64 x113012_1, .int .i64 x113013_1, .int .i64 x113014_1, .int .i64 x113015_1] 31 (0, 0))) ∧ Aside0 (Below w.heap.size w w'))
    case atStart => exact ⟨(0), (0), (0), (0), (0), (0), (0), (0), (0), (0), (0), (0), (0), (0), (0), (0), (0), (by first | rfl | (simp; done) | (simp [*]; done) | (congr 1; unfold wrap64; omega)), H', ⟨Nat.le_refl _⟩, ⟨by (with_reducible repeat (first | refine blk_drewN ?_ _ | refine blk_drew ?_ | refine blk_alloc ?_ _)); exact BK106.out⟩, ⟨by (with_reducible repeat (first | refine blk_drewN ?_ _ | refine blk_drew ?_ | refine blk_alloc ?_ _)); exact BK111.out⟩, ⟨by (with_reducible repeat (first | refine blk_drewN ?_ _ | refine blk_drew ?_ | refine blk_alloc ?_ _)); exact BK112.out⟩, ⟨by repeat (first | (with_reducible first | exact HB.out | apply below_alloc | apply pw_below_drewN | apply below_drew1 | refine below_set ?_ GE106.out | refine below_set ?_ GE111.out | refine below_set ?_ GE112.out) | exact HB.out)⟩⟩
    case round =>
     clear H'
     try clear c1
     try clear p1
     try clear q1
     try clear hx1
     try clear p2
     try clear c3
     try clear c3b0
     try clear c4
     try clear c4b0
     try clear c10
     try clear p11
     try clear q11
     try clear hx11
     try clear hcz11_0
     try clear hcz11_1
     try clear hcz11_2
     try clear hcz11_3
     try clear hfz11_0
     try clear hfz11_1
     try clear hfz11_2
     try clear hfz11_3
     try clear hx110_0
     try clear hx110_1
     try clear hx110_2
     try clear hx110_3
     try clear p110
     try clear q110
     obtain ⟨x5_1, x113000_1, x113001_1, x113002_1, x113003_1, x113004_1, x113005_1, x113006_1, x113007_1, x113008_1, x113009_1, x113010_1, x113011_1, x113012_1, x113013_1, x113014_1, x113015_1, rfl, HA, HK1, BK106, BK111, BK112, HB⟩ := hrel
     cases gk with
     | zero => exact absurd HA.out (by simp [guichetseat_Cass.l0])
     | succ k1 =>
      have H := HA.out
      clear HA
      simp only [guichetseat_Cass.l0] at H
      by_cases c13 : x5_1 < 4
      ·rw [if_pos c13] at H
       have c13b0 : decide (x5_1 < 4) = true := decide_eq_true c13
       clear c13
       by_cases c14 : x5_1 = 0
       ·subst c14
        have H1 : ((some (([0, 1, 2, 5, 9, 30, 100, 10000] : List Int) : List Int)).bind fun y113 => (if 0 ≤ (Int.tmod (wrap64 (((Int.tdiv a0 4) % 256) + (wrap64 (3 * 0)))) 8) then (if (Int.tmod (wrap64 (((Int.tdiv a0 4) % 256) + (wrap64 (3 * 0)))) 8) < (y113.length : Int) then (if 0 = 0 then (guichetseat_Cass.l0 k1 a0 (wrap64 (0 + 1)) ((rd_T78 y107 (ji2)).f0) ((rd_T78 y107 (ji2)).f1) ((rd_T78 y107 (ji2)).f2) ((rd_T78 y107 (ji2)).f3) (mx ((rd_T78 y107 (ji2)).f0) 1) (rd y113 (Int.tmod (wrap64 (((Int.tdiv a0 4) % 256) + (wrap64 (3 * 0)))) 8)) 0 0 x113004_1 x113005_1 x113006_1 x113007_1 x113008_1 x113009_1 x113010_1 x113011_1 x113012_1 x113013_1 x113014_1 x113015_1) else (if 0 = 1 then (guichetseat_Cass.l0 k1 a0 (wrap64 (0 + 1)) ((rd_T78 y107 (ji2)).f0) ((rd_T78 y107 (ji2)).f1) ((rd_T78 y107 (ji2)).f2) ((rd_T78 y107 (ji2)).f3) x113000_1 x113001_1 x113002_1 x113003_1 (mx ((rd_T78 y107 (ji2)).f0) 1) (rd y113 (Int.tmod (wrap64 (((Int.tdiv a0 4) % 256) + (wrap64 (3 * 0)))) 8)) 0 0 x113008_1 x113009_1 x113010_1 x113011_1 x113012_1 x113013_1 x113014_1 x113015_1) else (if 0 = 2 then (guichetseat_Cass.l0 k1 a0 (wrap64 (0 + 1)) ((rd_T78 y107 (ji2)).f0) ((rd_T78 y107 (ji2)).f1) ((rd_T78 y107 (ji2)).f2) ((rd_T78 y107 (ji2)).f3) x113000_1 x113001_1 x113002_1 x113003_1 x113004_1 x113005_1 x113006_1 x113007_1 (mx ((rd_T78 y107 (ji2)).f0) 1) (rd y113 (Int.tmod (wrap64 (((Int.tdiv a0 4) % 256) + (wrap64 (3 * 0)))) 8)) 0 0 x113012_1 x113013_1 x113014_1 x113015_1) else (if 0 = 3 then (guichetseat_Cass.l0 k1 a0 (wrap64 (0 + 1)) ((rd_T78 y107 (ji2)).f0) ((rd_T78 y107 (ji2)).f1) ((rd_T78 y107 (ji2)).f2) ((rd_T78 y107 (ji2)).f3) x113000_1 x113001_1 x113002_1 x113003_1 x113004_1 x113005_1 x113006_1 x113007_1 x113008_1 x113009_1 x113010_1 x113011_1 (mx ((rd_T78 y107 (ji2)).f0) 1) (rd y113 (Int.tmod (wrap64 (((Int.tdiv a0 4) % 256) + (wrap64 (3 * 0)))) 8)) 0 0) else (none))))) else (none)) else (none))) = some (r1, r2, r3, r4, r5, r6, r7, r8, r9, r10, r11, r12, r13, r14, r15, r16) := by rw [if_pos rfl] at H; exact H
        clear H
        have H := H1
        clear H1
        obtain ⟨ji15, hji15⟩ : ∃ j_ : Int, (mx ((rd_T78 y107 (ji2)).f0) 1) = j_ := ⟨_, rfl⟩
        replace H : ((some (([0, 1, 2, 5, 9, 30, 100, 10000] : List Int) : List Int)).bind fun y113 => (if 0 ≤ (Int.tmod (wrap64 (((Int.tdiv a0 4) % 256) + (wrap64 (3 * 0)))) 8) then (if (Int.tmod (wrap64 (((Int.tdiv a0 4) % 256) + (wrap64 (3 * 0)))) 8) < (y113.length : Int) then (if 0 = 0 then (guichetseat_Cass.l0 k1 a0 (wrap64 (0 + 1)) ((rd_T78 y107 (ji2)).f0) ((rd_T78 y107 (ji2)).f1) ((rd_T78 y107 (ji2)).f2) ((rd_T78 y107 (ji2)).f3) ji15 (rd y113 (Int.tmod (wrap64 (((Int.tdiv a0 4) % 256) + (wrap64 (3 * 0)))) 8)) 0 0 x113004_1 x113005_1 x113006_1 x113007_1 x113008_1 x113009_1 x113010_1 x113011_1 x113012_1 x113013_1 x113014_1 x113015_1) else (if 0 = 1 then (guichetseat_Cass.l0 k1 a0 (wrap64 (0 + 1)) ((rd_T78 y107 (ji2)).f0) ((rd_T78 y107 (ji2)).f1) ((rd_T78 y107 (ji2)).f2) ((rd_T78 y107 (ji2)).f3) x113000_1 x113001_1 x113002_1 x113003_1 ji15 (rd y113 (Int.tmod (wrap64 (((Int.tdiv a0 4) % 256) + (wrap64 (3 * 0)))) 8)) 0 0 x113008_1 x113009_1 x113010_1 x113011_1 x113012_1 x113013_1 x113014_1 x113015_1) else (if 0 = 2 then (guichetseat_Cass.l0 k1 a0 (wrap64 (0 + 1)) ((rd_T78 y107 (ji2)).f0) ((rd_T78 y107 (ji2)).f1) ((rd_T78 y107 (ji2)).f2) ((rd_T78 y107 (ji2)).f3) x113000_1 x113001_1 x113002_1 x113003_1 x113004_1 x113005_1 x113006_1 x113007_1 ji15 (rd y113 (Int.tmod (wrap64 (((Int.tdiv a0 4) % 256) + (wrap64 (3 * 0)))) 8)) 0 0 x113012_1 x113013_1 x113014_1 x113015_1) else (if 0 = 3 then (guichetseat_Cass.l0 k1 a0 (wrap64 (0 + 1)) ((rd_T78 y107 (ji2)).f0) ((rd_T78 y107 (ji2)).f1) ((rd_T78 y107 (ji2)).f2) ((rd_T78 y107 (ji2)).f3) x113000_1 x113001_1 x113002_1 x113003_1 x113004_1 x113005_1 x113006_1 x113007_1 x113008_1 x113009_1 x113010_1 x113011_1 ji15 (rd y113 (Int.tmod (wrap64 (((Int.tdiv a0 4) % 256) + (wrap64 (3 * 0)))) 8)) 0 0) else (none))))) else (none)) else (none))) = some (r1, r2, r3, r4, r5, r6, r7, r8, r9, r10, r11, r12, r13, r14, r15, r16) := by first | (rw [hji15] at H; exact H) | (simp only [hji15] at H ⊢; exact H)
        have hji15_ : (if ((rd_T78 y107 (ji2)).f0) < 1 then 1 else ((rd_T78 y107 (ji2)).f0)) = ji15 := hji15
        obtain ⟨y113, hy113⟩ : ∃ y_ : List Int, y_ = (([0, 1, 2, 5, 9, 30, 100, 10000] : List Int)) := ⟨_, rfl⟩
        replace H : (if 0 ≤ (Int.tmod (wrap64 (((Int.tdiv a0 4) % 256) + (wrap64 (3 * 0)))) 8) then (if (Int.tmod (wrap64 (((Int.tdiv a0 4) % 256) + (wrap64 (3 * 0)))) 8) < (y113.length : Int) then (if 0 = 0 then (guichetseat_Cass.l0 k1 a0 (wrap64 (0 + 1)) ((rd_T78 y107 (ji2)).f0) ((rd_T78 y107 (ji2)).f1) ((rd_T78 y107 (ji2)).f2) ((rd_T78 y107 (ji2)).f3) ji15 (rd y113 (Int.tmod (wrap64 (((Int.tdiv a0 4) % 256) + (wrap64 (3 * 0)))) 8)) 0 0 x113004_1 x113005_1 x113006_1 x113007_1 x113008_1 x113009_1 x113010_1 x113011_1 x113012_1 x113013_1 x113014_1 x113015_1) else (if 0 = 1 then (guichetseat_Cass.l0 k1 a0 (wrap64 (0 + 1)) ((rd_T78 y107 (ji2)).f0) ((rd_T78 y107 (ji2)).f1) ((rd_T78 y107 (ji2)).f2) ((rd_T78 y107 (ji2)).f3) x113000_1 x113001_1 x113002_1 x113003_1 ji15 (rd y113 (Int.tmod (wrap64 (((Int.tdiv a0 4) % 256) + (wrap64 (3 * 0)))) 8)) 0 0 x113008_1 x113009_1 x113010_1 x113011_1 x113012_1 x113013_1 x113014_1 x113015_1) else (if 0 = 2 then (guichetseat_Cass.l0 k1 a0 (wrap64 (0 + 1)) ((rd_T78 y107 (ji2)).f0) ((rd_T78 y107 (ji2)).f1) ((rd_T78 y107 (ji2)).f2) ((rd_T78 y107 (ji2)).f3) x113000_1 x113001_1 x113002_1 x113003_1 x113004_1 x113005_1 x113006_1 x113007_1 ji15 (rd y113 (Int.tmod (wrap64 (((Int.tdiv a0 4) % 256) + (wrap64 (3 * 0)))) 8)) 0 0 x113012_1 x113013_1 x113014_1 x113015_1) else (if 0 = 3 then (guichetseat_Cass.l0 k1 a0 (wrap64 (0 + 1)) ((rd_T78 y107 (ji2)).f0) ((rd_T78 y107 (ji2)).f1) ((rd_T78 y107 (ji2)).f2) ((rd_T78 y107 (ji2)).f3) x113000_1 x113001_1 x113002_1 x113003_1 x113004_1 x113005_1 x113006_1 x113007_1 x113008_1 x113009_1 x113010_1 x113011_1 ji15 (rd y113 (Int.tmod (wrap64 (((Int.tdiv a0 4) % 256) + (wrap64 (3 * 0)))) 8)) 0 0) else (none))))) else (none)) else (none)) = some (r1, r2, r3, r4, r5, r6, r7, r8, r9, r10, r11, r12, r13, r14, r15, r16) := by first | (rw [hy113]; with_reducible exact H) | (have H2_ := (Option.bind_some _ _).symm.trans H; rw [hy113]; with_reducible exact H2_) | (have H2_ := (Option.bind_some _ _).symm.trans H; with_reducible exact H2_) | with_reducible exact H | (rw [hy113]; exact H) | exact H
        have Ny113 := Aside0.mk hy113
        clear hy113
        obtain ⟨ji16, hji16⟩ : ∃ j_ : Int, (Int.tmod (wrap64 (((Int.tdiv a0 4) % 256) + (wrap64 (3 * 0)))) 8) = j_ := ⟨_, rfl⟩
        have hjj16 : (wrap64 (wrap64 (IntKind.u8.wrap (a0.tdiv 4)) + wrap64 0)).tmod 8 = ji16 := by rw [← hji16, show IntKind.u8.wrap (a0.tdiv 4) = a0.tdiv 4 % 256 from rfl, show wrap64 (a0.tdiv 4 % 256) = a0.tdiv 4 % 256 from by unfold wrap64; omega]; rfl
        replace H : (if 0 ≤ (ji16) then (if (ji16) < (y113.length : Int) then (if 0 = 0 then (guichetseat_Cass.l0 k1 a0 (wrap64 (0 + 1)) ((rd_T78 y107 (ji2)).f0) ((rd_T78 y107 (ji2)).f1) ((rd_T78 y107 (ji2)).f2) ((rd_T78 y107 (ji2)).f3) ji15 (rd y113 (ji16)) 0 0 x113004_1 x113005_1 x113006_1 x113007_1 x113008_1 x113009_1 x113010_1 x113011_1 x113012_1 x113013_1 x113014_1 x113015_1) else (if 0 = 1 then (guichetseat_Cass.l0 k1 a0 (wrap64 (0 + 1)) ((rd_T78 y107 (ji2)).f0) ((rd_T78 y107 (ji2)).f1) ((rd_T78 y107 (ji2)).f2) ((rd_T78 y107 (ji2)).f3) x113000_1 x113001_1 x113002_1 x113003_1 ji15 (rd y113 (ji16)) 0 0 x113008_1 x113009_1 x113010_1 x113011_1 x113012_1 x113013_1 x113014_1 x113015_1) else (if 0 = 2 then (guichetseat_Cass.l0 k1 a0 (wrap64 (0 + 1)) ((rd_T78 y107 (ji2)).f0) ((rd_T78 y107 (ji2)).f1) ((rd_T78 y107 (ji2)).f2) ((rd_T78 y107 (ji2)).f3) x113000_1 x113001_1 x113002_1 x113003_1 x113004_1 x113005_1 x113006_1 x113007_1 ji15 (rd y113 (ji16)) 0 0 x113012_1 x113013_1 x113014_1 x113015_1) else (if 0 = 3 then (guichetseat_Cass.l0 k1 a0 (wrap64 (0 + 1)) ((rd_T78 y107 (ji2)).f0) ((rd_T78 y107 (ji2)).f1) ((rd_T78 y107 (ji2)).f2) ((rd_T78 y107 (ji2)).f3) x113000_1 x113001_1 x113002_1 x113003_1 x113004_1 x113005_1 x113006_1 x113007_1 x113008_1 x113009_1 x113010_1 x113011_1 ji15 (rd y113 (ji16)) 0 0) else (none))))) else (none)) else (none)) = some (r1, r2, r3, r4, r5, r6, r7, r8, r9, r10, r11, r12, r13, r14, r15, r16) := by first | (rw [hji16] at H; exact H) | (simp only [hji16] at H ⊢; exact H)
        by_cases c17 : 0 ≤ (ji16)
        ·rw [if_pos c17] at H
         have c17b0 : decide (0 ≤ (ji16)) = true := decide_eq_true c17
         clear c17
         by_cases c18 : (ji16) < (y113.length : Int)
         ·rw [if_pos c18] at H
          have c18b0 : decide ((ji16) < (y113.length : Int)) = true := decide_eq_true c18
          clear c18
          have H1 : (guichetseat_Cass.l0 k1 a0 (wrap64 (0 + 1)) ((rd_T78 y107 (ji2)).f0) ((rd_T78 y107 (ji2)).f1) ((rd_T78 y107 (ji2)).f2) ((rd_T78 y107 (ji2)).f3) ji15 (rd y113 (ji16)) 0 0 x113004_1 x113005_1 x113006_1 x113007_1 x113008_1 x113009_1 x113010_1 x113011_1 x113012_1 x113013_1 x113014_1 x113015_1) = some (r1, r2, r3, r4, r5, r6, r7, r8, r9, r10, r11, r12, r13, r14, r15, r16) := by rw [if_pos rfl] at H; exact H
          clear H
          have H := H1
          clear H1
          have H' := Aside0.mk H
          clear H
          try go_wp2
          have pi116 : (0 ≤ ((ji16) : Int)) = True := eq_true (of_decide_eq_true (by first | (with_reducible assumption) | assumption))
          have qi116 : ((ji16) < (y113.length : Int)) = True := eq_true (of_decide_eq_true (by first | (with_reducible assumption) | assumption))
          have n0_ := Aside0.mk (blk_drew BK106.out)
          have n1_ := Aside0.mk (blk_drew BK111.out)
          have n2_ := Aside0.mk (blk_drew BK112.out)
          have n3_ := Aside0.mk (below_drew1 HB.out)
          clear BK106
          clear BK111
          clear BK112
          clear HB
          have BK106 := n0_
          have BK111 := n1_
          have BK112 := n2_
          have HB := n3_
          clear n0_ n1_ n2_ n3_
          refine start_ (n := 18) (S := fun w' => w'.cell? ⟨gb111, 0, none⟩ = some (.int .i64 ((rd_T78 y107 (ji2)).f0)) ∧ w'.cell? ⟨gb111, 1, none⟩ = some (.int .i64 ((rd_T78 y107 (ji2)).f1)) ∧ w'.cell? ⟨gb111, 2, none⟩ = some (.int .i64 ((rd_T78 y107 (ji2)).f2)) ∧ w'.cell? ⟨gb111, 3, none⟩ = some (.int .i64 ((rd_T78 y107 (ji2)).f3))) (ds := []) #[false, false, false, false, false, false, false, false, false, false, false, false, false, false, false, false, false, false] (by kernel_rfl) rfl rfl ⟨(blk_cell BK111.out 0).trans rfl, (blk_cell BK111.out 1).trans rfl, (blk_cell BK111.out 2).trans rfl, (blk_cell BK111.out 3).trans rfl⟩ (fun hHeld => ?_); refine with_tabW guichetseat_Cass.tab6 guichetseat_Cass.bits6 (fun HT_ HW_ => ?_)
          generalize wr.drew = w20 at BK106 BK111 BK112 HB hHeld ⊢
          refine pure_ (i := 0) (N := some 19) (v := ?_) (a' := ?_) #[true, false, false, false, false, false, false, false, false, false, false, false, false, false, false, false, false, false] rfl rfl (any_of HT_.out (by kernel_rfl)) (fun _ _ _ h => h) (Or.inl ⟨by rfl, ?_⟩) ?_ ?_
          rotate_left
          ·intro w'
           go_simp
           with_reducible rfl
          rotate_left
          ·simp only [Act.put, List.setIfInBounds_toArray, List.set_cons_zero, List.set_cons_succ, i64_w, i32_w]
           rfl
          refine pure_ (i := 1) (N := some 20) (v := ?_) (a' := ?_) #[true, true, false, false, false, false, false, false, false, false, false, false, false, false, false, false, false, false] rfl rfl (any_of HT_.out (by kernel_rfl)) (fun _ _ _ h => h) (Or.inl ⟨by rfl, ?_⟩) ?_ ?_
          rotate_left
          ·intro w'
           go_simp
           with_reducible rfl
          rotate_left
          ·simp only [Act.put, List.setIfInBounds_toArray, List.set_cons_zero, List.set_cons_succ, i64_w, i32_w]
           rfl
          refine pure_ (i := 2) (N := some 21) (v := ?_) (a' := ?_) #[true, true, true, false, false, false, false, false, false, false, false, false, false, false, false, false, false, false] rfl rfl (any_of HT_.out (by kernel_rfl)) (fun _ _ _ h => h) (Or.inl ⟨by rfl, ?_⟩) ?_ ?_
          rotate_left
          ·intro w'
           go_simp
           with_reducible rfl
          rotate_left
          ·simp only [Act.put, List.setIfInBounds_toArray, List.set_cons_zero, List.set_cons_succ, i64_w, i32_w]
           rfl
          refine pure_ (i := 6) (N := some 25) (v := ?_) (a' := ?_) #[true, true, true, false, false, false, true, false, false, false, false, false, false, false, false, false, false, false] rfl rfl (any_of HT_.out (by kernel_rfl)) (fun _ _ _ h => h) (Or.inl ⟨by rfl, ?_⟩) ?_ ?_
          rotate_left
          ·intro w'
           go_simp
           with_reducible rfl
          rotate_left
          ·simp only [Act.put, List.setIfInBounds_toArray, List.set_cons_zero, List.set_cons_succ, i64_w, i32_w]
           rfl
          refine pure_ (i := 7) (N := some 26) (v := ?_) (a' := ?_) #[true, true, true, false, false, false, true, true, false, false, false, false, false, false, false, false, false, false] rfl rfl (any_of HT_.out (by kernel_rfl)) (fun _ _ _ h => h) (Or.inl ⟨by rfl, ?_⟩) ?_ ?_
          rotate_left
          ·intro w'
           go_simp
           with_reducible rfl
          rotate_left
          ·simp only [Act.put, List.setIfInBounds_toArray, List.set_cons_zero, List.set_cons_succ, i64_w, i32_w]
           rfl
          refine pure_ (i := 8) (N := some 27) (v := ?_) (a' := ?_) #[true, true, true, false, false, false, true, true, true, false, false, false, false, false, false, false, false, false] rfl rfl (any_of HT_.out (by kernel_rfl)) (fun _ _ _ h => h) (Or.inl ⟨by rfl, ?_⟩) ?_ ?_
          rotate_left
          ·intro w'
           go_simp
           with_reducible rfl
          rotate_left
          ·simp only [Act.put, List.setIfInBounds_toArray, List.set_cons_zero, List.set_cons_succ, i64_w, i32_w]
           rfl
          refine pure_ (i := 9) (N := some 28) (v := ?_) (a' := ?_) #[true, true, true, false, false, false, true, true, true, true, false, false, false, false, false, false, false, false] rfl rfl (any_of HT_.out (by kernel_rfl)) (fun _ _ _ h => h) (Or.inl ⟨by rfl, ?_⟩) ?_ ?_
          rotate_left
          ·intro w'
           go_simp
           with_reducible rfl
          rotate_left
          ·simp only [Act.put, List.setIfInBounds_toArray, List.set_cons_zero, List.set_cons_succ, i64_w, i32_w]
           rfl
          refine pure_ (i := 10) (N := some 29) (v := ?_) (a' := ?_) #[true, true, true, false, false, false, true, true, true, true, true, false, false, false, false, false, false, false] rfl rfl (any_of HT_.out (by kernel_rfl)) (fun _ _ _ h => h) (Or.inl ⟨by rfl, ?_⟩) ?_ ?_
          rotate_left
          ·intro w'
           go_simp
           with_reducible rfl
          rotate_left
          ·simp only [Act.put, List.setIfInBounds_toArray, List.set_cons_zero, List.set_cons_succ, i64_w, i32_w]
           rfl
          refine pure_ (i := 11) (N := some 30) (v := ?_) (a' := ?_) #[true, true, true, false, false, false, true, true, true, true, true, true, false, false, false, false, false, false] rfl rfl (any_of HT_.out (by kernel_rfl)) (fun _ _ _ h => h) (Or.inl ⟨by rfl, ?_⟩) ?_ ?_
          rotate_left
          ·intro w'
           go_simp
           with_reducible rfl
          rotate_left
          ·simp only [Act.put, List.setIfInBounds_toArray, List.set_cons_zero, List.set_cons_succ, i64_w, i32_w]
           rfl
          refine pure_ (i := 12) (N := some 31) (v := ?_) (a' := ?_) #[true, true, true, false, false, false, true, true, true, true, true, true, true, false, false, false, false, false] rfl rfl (any_of HT_.out (by kernel_rfl)) (fun _ _ _ h => h) (Or.inl ⟨by rfl, ?_⟩) ?_ ?_
          rotate_left
          ·intro w'
           go_simp
           with_reducible rfl
          rotate_left
          ·simp only [Act.put, List.setIfInBounds_toArray, List.set_cons_zero, List.set_cons_succ, i64_w, i32_w]
           rfl
          refine take_ (i := 3) (N := some 22) (v := ?_) (a' := ?_) #[true, true, true, true, false, false, true, true, true, true, true, true, true, false, false, false, false, false] rfl rfl (take_ofW HT_.out HW_.out (by kernel_rfl)) (fun _ _ _ h => h) (Or.inl ⟨by rfl, ?_⟩) hHeld ?_ ?_
          rotate_left
          ·rintro w' ⟨s0, s1, s2, s3⟩
           go_simp
           with_reducible rfl
          rotate_left
          ·simp only [Act.put, List.setIfInBounds_toArray, List.set_cons_zero, List.set_cons_succ, i64_w, i32_w]
           rfl
          refine pure_ (i := 4) (N := some 23) (v := ?_) (a' := ?_) #[true, true, true, true, true, false, true, true, true, true, true, true, true, false, false, false, false, false] rfl rfl (any_of HT_.out (by kernel_rfl)) (fun _ _ _ h => h) (Or.inl ⟨by rfl, ?_⟩) ?_ ?_
          rotate_left
          ·intro w'
           go_simp
           with_reducible rfl
          rotate_left
          ·simp only [Act.put, List.setIfInBounds_toArray, List.set_cons_zero, List.set_cons_succ, i64_w, i32_w]
           rfl
          refine one_ (i := 5) (N := some 24) #[true, true, true, true, true, true, true, true, true, true, true, true, true, false, false, false, false, false] rfl rfl (one_of HT_.out (by kernel_rfl)) (by decide) (fun K hK => ?_)
          refine Kd.R_lit_step (Kd.int .i64) _ 3 ?hg (N := 24) ?hd (xs := ([0, 1, 2, 5, 9, 30, 100, 10000] : List Int)) (inner := [.int .i64 0, .int .i64 1, .int .i64 2, .int .i64 5, .int .i64 9, .int .i64 30, .int .i64 100, .int .i64 10000]) (ok := fun _ => True) (okp := fun _ => True) ?hr ?hp (fun _ hk => hk) trivial (Below.refl _ _) (Nat.le_refl _) (by simp) ?_; (case hd => rfl); (case hg => rfl); (case hr => first | (go_simp; done) | (go_simp; rfl)); (case hp => exact (Reps.one (show Kd.M (Kd.int .i64) _ _ _ 0 [.int .i64 0] from rfl) (Reps.one (show Kd.M (Kd.int .i64) _ _ _ 1 [.int .i64 1] from rfl) (Reps.one (show Kd.M (Kd.int .i64) _ _ _ 2 [.int .i64 2] from rfl) (Reps.one (show Kd.M (Kd.int .i64) _ _ _ 5 [.int .i64 5] from rfl) (Reps.one (show Kd.M (Kd.int .i64) _ _ _ 9 [.int .i64 9] from rfl) (Reps.one (show Kd.M (Kd.int .i64) _ _ _ 30 [.int .i64 30] from rfl) (Reps.one (show Kd.M (Kd.int .i64) _ _ _ 100 [.int .i64 100] from rfl) (Reps.one (show Kd.M (Kd.int .i64) _ _ _ 10000 [.int .i64 10000] from rfl) (Reps.none _ _))))))))))
          intro v114 w21 ho22 hb hg_ hnew_
          clear hg_ hnew_
          (first | rw [← Ny113.out] at ho22 | (simp only [Int.reduceToNat] at ho22; rw [← Ny113.out] at ho22))
          have n0_ := Aside0.mk (Kd.R_lower ho22 (below_size (by repeat (first | (with_reducible first | exact HB.out | apply below_alloc | apply pw_below_drewN | apply below_drew1 | refine below_set ?_ GE106.out | refine below_set ?_ GE111.out | refine below_set ?_ GE112.out) | exact HB.out))))
          have n1_ := Aside0.mk (blk_below (g := gb106) (o := .cells #[.int .i64 0, .int .i64 0, .int .i64 0, .int .i64 0, .int .i64 0, .int .i64 0, .int .i64 0, .int .i64 0, .int .i64 0, .int .i64 0, .int .i64 0, .int .i64 0, .int .i64 0, .int .i64 0, .int .i64 0, .int .i64 0] 31 (0, 0)) (by (with_reducible repeat (first | refine blk_drewN ?_ _ | refine blk_drew ?_ | refine blk_alloc ?_ _)); exact BK106.out) hb)
          have n2_ := Aside0.mk (blk_below (g := gb111) (o := .cells #[.int .i64 ((rd_T78 y107 (ji2)).f0), .int .i64 ((rd_T78 y107 (ji2)).f1), .int .i64 ((rd_T78 y107 (ji2)).f2), .int .i64 ((rd_T78 y107 (ji2)).f3)] 78 (0, 0)) (by (with_reducible repeat (first | refine blk_drewN ?_ _ | refine blk_drew ?_ | refine blk_alloc ?_ _)); exact BK111.out) hb)
          have n3_ := Aside0.mk (blk_below (g := gb112) (o := .cells #[.int .i64 x113000_1, .int .i64 x113001_1, .int .i64 x113002_1, .int .i64 x113003_1, .int .i64 x113004_1, .int .i64 x113005_1, .int .i64 x113006_1, .int .i64 x113007_1, .int .i64 x113008_1, .int .i64 x113009_1, .int .i64 x113010_1, .int .i64 x113011_1, .int .i64 x113012_1, .int .i64 x113013_1, .int .i64 x113014_1, .int .i64 x113015_1] 31 (0, 0)) (by (with_reducible repeat (first | refine blk_drewN ?_ _ | refine blk_drew ?_ | refine blk_alloc ?_ _)); exact BK112.out) hb)
          have n4_ := Aside0.mk (below_step (by repeat (first | (with_reducible first | exact HB.out | apply below_alloc | apply pw_below_drewN | apply below_drew1 | refine below_set ?_ GE106.out | refine below_set ?_ GE111.out | refine below_set ?_ GE112.out) | exact HB.out)) hb)
          clear BK106
          clear BK111
          clear BK112
          clear HB
          have HO115 := n0_
          have BK106 := n1_
          have BK111 := n2_
          have BK112 := n3_
          have HB := n4_
          clear n0_ n1_ n2_ n3_ n4_
          clear hb ho22
          obtain ⟨Ao23, co23, eo23⟩ := Kd.R_slice HO115.out
          subst eo23
          obtain ⟨ado23, fo23, _⟩ := Kd.at_int (Kd.R_reads' HO115.out).2.2 0 (by decide) (by rw [Ny113.out]; simp)
          cases fo23
          refine hK.out _ _ ⟨(blk_cell BK111.out 0).trans rfl, (blk_cell BK111.out 1).trans rfl, (blk_cell BK111.out 2).trans rfl, (blk_cell BK111.out 3).trans rfl⟩ (fun hHeld => ?_)
          clear hK K
          refine norm_ (a' := ?_) ?_ ?_
          rotate_left
          ·show Act.put _ (some 24) _ = _
           simp only [Act.put, List.setIfInBounds_toArray, List.set_cons_zero, List.set_cons_succ, i64_w, i32_w]
           rfl
          refine pure_ (i := 13) (N := some 32) (v := ?_) (a' := ?_) #[true, true, true, true, true, true, true, true, true, true, true, true, true, true, false, false, false, false] rfl rfl (any_of HT_.out (by kernel_rfl)) (fun _ _ _ h => h) (Or.inl ⟨by rfl, ?_⟩) ?_ ?_
          rotate_left
          ·intro w'
           go_simp
           with_reducible rfl
          rotate_left
          ·simp only [Act.put, List.setIfInBounds_toArray, List.set_cons_zero, List.set_cons_succ, i64_w, i32_w]
           rfl
          refine one_ (i := 14) (N := some 33) #[true, true, true, true, true, true, true, true, true, true, true, true, true, true, true, false, false, false] rfl rfl (one_of HT_.out (by kernel_rfl)) (by decide) (fun K hK => ?_)
          (have p116 : 0 ≤ ((ji16) : Int) := of_decide_eq_true (by first | (with_reducible assumption) | assumption); have q116 : (ji16) < (y113.length : Int) := of_decide_eq_true (by first | (with_reducible assumption) | assumption); obtain ⟨ad116, e116, hx116_0⟩ := Kd.at_int (Kd.R_reads' HO115.out).2.2 (ji16) p116 q116; obtain rfl : ado23 = ad116 := (by injection e116))
          refine value_ (w1 := ?_) (v := ?_) (by rfl) rfl ?_ ?_
          rotate_left 2
          ·go_simp
           constructor
           ·rfl
           ·rfl
          clear hx116_0
          refine hK.out _ _ ⟨(blk_cell BK111.out 0).trans rfl, (blk_cell BK111.out 1).trans rfl, (blk_cell BK111.out 2).trans rfl, (blk_cell BK111.out 3).trans rfl⟩ (fun hHeld => ?_)
          clear hK K
          refine norm_ (a' := ?_) ?_ ?_
          rotate_left
          ·show Act.put _ (some 33) _ = _
           simp only [Act.put, List.setIfInBounds_toArray, List.set_cons_zero, List.set_cons_succ, i64_w, i32_w]
           rfl
          refine pure_ (i := 15) (N := some 34) (v := ?_) (a' := ?_) #[true, true, true, true, true, true, true, true, true, true, true, true, true, true, true, true, false, false] rfl rfl (any_of HT_.out (by kernel_rfl)) (fun _ _ _ h => h) (Or.inl ⟨by rfl, ?_⟩) ?_ ?_
          rotate_left
          ·intro w'
           go_simp
           with_reducible rfl
          rotate_left
          ·simp only [Act.put, List.setIfInBounds_toArray, List.set_cons_zero, List.set_cons_succ, i64_w, i32_w]
           rfl
          refine pure_ (i := 16) (N := some 35) (v := ?_) (a' := ?_) #[true, true, true, true, true, true, true, true, true, true, true, true, true, true, true, true, true, false] rfl rfl (any_of HT_.out (by kernel_rfl)) (fun _ _ _ h => h) (Or.inl ⟨by rfl, ?_⟩) ?_ ?_
          rotate_left
          ·intro w'
           go_simp
           with_reducible rfl
          rotate_left
          ·simp only [Act.put, List.setIfInBounds_toArray, List.set_cons_zero, List.set_cons_succ, i64_w, i32_w]
           rfl
          refine one_ (i := 17) (N := none) #[true, true, true, true, true, true, true, true, true, true, true, true, true, true, true, true, true, true] rfl rfl (one_of HT_.out (by kernel_rfl)) (by decide) (fun K hK => ?_)
          have hs24 : w21.cell? ⟨gb112, 0, none⟩ = some (.int .i64 x113000_1) := (blk_cell BK112.out 0).trans rfl
          have hfs24 := blk_frozen BK112.out 0
          have hns24_0 := NB106_112.out
          have hns24_1 := NB111_112.out
          have hms24_0 := NB112_106.out
          have hms24_1 := NB112_111.out
          have hs25 : w21.cell? ⟨gb112, 1, none⟩ = some (.int .i64 x113001_1) := (blk_cell BK112.out 1).trans rfl
          have hfs25 := blk_frozen BK112.out 1
          have hns25_0 := NB106_112.out
          have hns25_1 := NB111_112.out
          have hms25_0 := NB112_106.out
          have hms25_1 := NB112_111.out
          have hs26 : w21.cell? ⟨gb112, 2, none⟩ = some (.int .i64 x113002_1) := (blk_cell BK112.out 2).trans rfl
          have hfs26 := blk_frozen BK112.out 2
          have hns26_0 := NB106_112.out
          have hns26_1 := NB111_112.out
          have hms26_0 := NB112_106.out
          have hms26_1 := NB112_111.out
          have hs27 : w21.cell? ⟨gb112, 3, none⟩ = some (.int .i64 x113003_1) := (blk_cell BK112.out 3).trans rfl
          have hfs27 := blk_frozen BK112.out 3
          have hns27_0 := NB106_112.out
          have hns27_1 := NB111_112.out
          have hms27_0 := NB112_106.out
          have hms27_1 := NB112_111.out
          refine skip_ (w1 := ?_) (by rfl) rfl ?_ ?_
          rotate_left
          ·go_simp
           rfl
          refine hK.out _ _ ⟨((cell_far (p := ⟨gb112, _, none⟩) NB111_112.out _).trans (((cell_far (p := ⟨gb112, _, none⟩) NB111_112.out _).trans (((cell_far (p := ⟨gb112, _, none⟩) NB111_112.out _).trans (((cell_far (p := ⟨gb112, _, none⟩) NB111_112.out _).trans (hHeld.1)))))))), ((cell_far (p := ⟨gb112, _, none⟩) NB111_112.out _).trans (((cell_far (p := ⟨gb112, _, none⟩) NB111_112.out _).trans (((cell_far (p := ⟨gb112, _, none⟩) NB111_112.out _).trans (((cell_far (p := ⟨gb112, _, none⟩) NB111_112.out _).trans (hHeld.2.1)))))))), ((cell_far (p := ⟨gb112, _, none⟩) NB111_112.out _).trans (((cell_far (p := ⟨gb112, _, none⟩) NB111_112.out _).trans (((cell_far (p := ⟨gb112, _, none⟩) NB111_112.out _).trans (((cell_far (p := ⟨gb112, _, none⟩) NB111_112.out _).trans (hHeld.2.2.1)))))))), ((cell_far (p := ⟨gb112, _, none⟩) NB111_112.out _).trans (((cell_far (p := ⟨gb112, _, none⟩) NB111_112.out _).trans (((cell_far (p := ⟨gb112, _, none⟩) NB111_112.out _).trans (((cell_far (p := ⟨gb112, _, none⟩) NB111_112.out _).trans (hHeld.2.2.2))))))))⟩ (fun hHeld => ?_)
          clear hK K
          refine done_ (done_of HT_.out (by kernel_rfl)) ?_
          try go_wp2
          go_roundg k1
          case measure => have := HK1.out; omega
          case rel => exact ⟨(wrap64 (0 + 1)), (ji15), (rd y113 (ji16)), (0), (0), (x113004_1), (x113005_1), (x113006_1), (x113007_1), (x113008_1), (x113009_1), (x113010_1), (x113011_1), (x113012_1), (x113013_1), (x113014_1), (x113015_1), (by first | rfl | (simp; done) | (simp [*]; done) | (congr 1; unfold wrap64; omega)), H', ⟨by have := HK1.out; omega⟩, ⟨by (with_reducible repeat (first | refine blk_drewN ?_ _ | refine blk_drew ?_ | refine blk_alloc ?_ _)); refine blk_far ?_ NB106_112.out _; (with_reducible repeat (first | refine blk_drewN ?_ _ | refine blk_drew ?_ | refine blk_alloc ?_ _)); refine blk_far ?_ NB106_112.out _; (with_reducible repeat (first | refine blk_drewN ?_ _ | refine blk_drew ?_ | refine blk_alloc ?_ _)); refine blk_far ?_ NB106_112.out _; (with_reducible repeat (first | refine blk_drewN ?_ _ | refine blk_drew ?_ | refine blk_alloc ?_ _)); refine blk_far ?_ NB106_112.out _; (with_reducible repeat (first | refine blk_drewN ?_ _ | refine blk_drew ?_ | refine blk_alloc ?_ _)); exact BK106.out⟩, ⟨by (with_reducible repeat (first | refine blk_drewN ?_ _ | refine blk_drew ?_ | refine blk_alloc ?_ _)); refine blk_far ?_ NB111_112.out _; (with_reducible repeat (first | refine blk_drewN ?_ _ | refine blk_drew ?_ | refine blk_alloc ?_ _)); refine blk_far ?_ NB111_112.out _; (with_reducible repeat (first | refine blk_drewN ?_ _ | refine blk_drew ?_ | refine blk_alloc ?_ _)); refine blk_far ?_ NB111_112.out _; (with_reducible repeat (first | refine blk_drewN ?_ _ | refine blk_drew ?_ | refine blk_alloc ?_ _)); refine blk_far ?_ NB111_112.out _; (with_reducible repeat (first | refine blk_drewN ?_ _ | refine blk_drew ?_ | refine blk_alloc ?_ _)); exact BK111.out⟩, ⟨by (with_reducible repeat (first | refine blk_drewN ?_ _ | refine blk_drew ?_ | refine blk_alloc ?_ _)); refine blk_put (cs := #[.int .i64 ji15, .int .i64 (rd y113 (ji16)), .int .i64 0, .int .i64 x113003_1, .int .i64 x113004_1, .int .i64 x113005_1, .int .i64 x113006_1, .int .i64 x113007_1, .int .i64 x113008_1, .int .i64 x113009_1, .int .i64 x113010_1, .int .i64 x113011_1, .int .i64 x113012_1, .int .i64 x113013_1, .int .i64 x113014_1, .int .i64 x113015_1]) ?_ 3 _ rfl; (with_reducible repeat (first | refine blk_drewN ?_ _ | refine blk_drew ?_ | refine blk_alloc ?_ _)); refine blk_put (cs := #[.int .i64 ji15, .int .i64 (rd y113 (ji16)), .int .i64 x113002_1, .int .i64 x113003_1, .int .i64 x113004_1, .int .i64 x113005_1, .int .i64 x113006_1, .int .i64 x113007_1, .int .i64 x113008_1, .int .i64 x113009_1, .int .i64 x113010_1, .int .i64 x113011_1, .int .i64 x113012_1, .int .i64 x113013_1, .int .i64 x113014_1, .int .i64 x113015_1]) ?_ 2 _ rfl; (with_reducible repeat (first | refine blk_drewN ?_ _ | refine blk_drew ?_ | refine blk_alloc ?_ _)); refine blk_put (cs := #[.int .i64 ji15, .int .i64 x113001_1, .int .i64 x113002_1, .int .i64 x113003_1, .int .i64 x113004_1, .int .i64 x113005_1, .int .i64 x113006_1, .int .i64 x113007_1, .int .i64 x113008_1, .int .i64 x113009_1, .int .i64 x113010_1, .int .i64 x113011_1, .int .i64 x113012_1, .int .i64 x113013_1, .int .i64 x113014_1, .int .i64 x113015_1]) ?_ 1 _ rfl; (with_reducible repeat (first | refine blk_drewN ?_ _ | refine blk_drew ?_ | refine blk_alloc ?_ _)); refine blk_put (cs := #[.int .i64 x113000_1, .int .i64 x113001_1, .int .i64 x113002_1, .int .i64 x113003_1, .int .i64 x113004_1, .int .i64 x113005_1, .int .i64 x113006_1, .int .i64 x113007_1, .int .i64 x113008_1, .int .i64 x113009_1, .int .i64 x113010_1, .int .i64 x113011_1, .int .i64 x113012_1, .int .i64 x113013_1, .int .i64 x113014_1, .int .i64 x113015_1]) ?_ 0 _ rfl; (with_reducible repeat (first | refine blk_drewN ?_ _ | refine blk_drew ?_ | refine blk_alloc ?_ _)); exact BK112.out⟩, ⟨by repeat (first | (with_reducible first | exact HB.out | apply below_alloc | apply pw_below_drewN | apply below_drew1 | refine below_set ?_ GE106.out | refine below_set ?_ GE111.out | refine below_set ?_ GE112.out) | exact HB.out)⟩⟩
         ·rw [if_neg c18] at H
          exact absurd H (by simp)
        ·rw [if_neg c17] at H
         exact absurd H (by simp)
       ·rw [if_neg c14] at H
        by_cases c28 : x5_1 = 1
        ·subst c28
         have H1 : ((some (([0, 1, 2, 5, 9, 30, 100, 10000] : List Int) : List Int)).bind fun y117 => (if 0 ≤ (Int.tmod (wrap64 (((Int.tdiv a0 4) % 256) + (wrap64 (3 * 1)))) 8) then (if (Int.tmod (wrap64 (((Int.tdiv a0 4) % 256) + (wrap64 (3 * 1)))) 8) < (y117.length : Int) then (if 1 = 0 then (guichetseat_Cass.l0 k1 a0 (wrap64 (1 + 1)) ((rd_T78 y107 (ji2)).f0) ((rd_T78 y107 (ji2)).f1) ((rd_T78 y107 (ji2)).f2) ((rd_T78 y107 (ji2)).f3) (mx ((rd_T78 y107 (ji2)).f1) 1) (rd y117 (Int.tmod (wrap64 (((Int.tdiv a0 4) % 256) + (wrap64 (3 * 1)))) 8)) 0 0 x113004_1 x113005_1 x113006_1 x113007_1 x113008_1 x113009_1 x113010_1 x113011_1 x113012_1 x113013_1 x113014_1 x113015_1) else (if 1 = 1 then (guichetseat_Cass.l0 k1 a0 (wrap64 (1 + 1)) ((rd_T78 y107 (ji2)).f0) ((rd_T78 y107 (ji2)).f1) ((rd_T78 y107 (ji2)).f2) ((rd_T78 y107 (ji2)).f3) x113000_1 x113001_1 x113002_1 x113003_1 (mx ((rd_T78 y107 (ji2)).f1) 1) (rd y117 (Int.tmod (wrap64 (((Int.tdiv a0 4) % 256) + (wrap64 (3 * 1)))) 8)) 0 0 x113008_1 x113009_1 x113010_1 x113011_1 x113012_1 x113013_1 x113014_1 x113015_1) else (if 1 = 2 then (guichetseat_Cass.l0 k1 a0 (wrap64 (1 + 1)) ((rd_T78 y107 (ji2)).f0) ((rd_T78 y107 (ji2)).f1) ((rd_T78 y107 (ji2)).f2) ((rd_T78 y107 (ji2)).f3) x113000_1 x113001_1 x113002_1 x113003_1 x113004_1 x113005_1 x113006_1 x113007_1 (mx ((rd_T78 y107 (ji2)).f1) 1) (rd y117 (Int.tmod (wrap64 (((Int.tdiv a0 4) % 256) + (wrap64 (3 * 1)))) 8)) 0 0 x113012_1 x113013_1 x113014_1 x113015_1) else (if 1 = 3 then (guichetseat_Cass.l0 k1 a0 (wrap64 (1 + 1)) ((rd_T78 y107 (ji2)).f0) ((rd_T78 y107 (ji2)).f1) ((rd_T78 y107 (ji2)).f2) ((rd_T78 y107 (ji2)).f3) x113000_1 x113001_1 x113002_1 x113003_1 x113004_1 x113005_1 x113006_1 x113007_1 x113008_1 x113009_1 x113010_1 x113011_1 (mx ((rd_T78 y107 (ji2)).f1) 1) (rd y117 (Int.tmod (wrap64 (((Int.tdiv a0 4) % 256) + (wrap64 (3 * 1)))) 8)) 0 0) else (none))))) else (none)) else (none))) = some (r1, r2, r3, r4, r5, r6, r7, r8, r9, r10, r11, r12, r13, r14, r15, r16) := by rw [if_pos rfl] at H; exact H
         clear H
         have H := H1
         clear H1
         obtain ⟨ji29, hji29⟩ : ∃ j_ : Int, (mx ((rd_T78 y107 (ji2)).f1) 1) = j_ := ⟨_, rfl⟩
         replace H : ((some (([0, 1, 2, 5, 9, 30, 100, 10000] : List Int) : List Int)).bind fun y117 => (if 0 ≤ (Int.tmod (wrap64 (((Int.tdiv a0 4) % 256) + (wrap64 (3 * 1)))) 8) then (if (Int.tmod (wrap64 (((Int.tdiv a0 4) % 256) + (wrap64 (3 * 1)))) 8) < (y117.length : Int) then (if 1 = 0 then (guichetseat_Cass.l0 k1 a0 (wrap64 (1 + 1)) ((rd_T78 y107 (ji2)).f0) ((rd_T78 y107 (ji2)).f1) ((rd_T78 y107 (ji2)).f2) ((rd_T78 y107 (ji2)).f3) ji29 (rd y117 (Int.tmod (wrap64 (((Int.tdiv a0 4) % 256) + (wrap64 (3 * 1)))) 8)) 0 0 x113004_1 x113005_1 x113006_1 x113007_1 x113008_1 x113009_1 x113010_1 x113011_1 x113012_1 x113013_1 x113014_1 x113015_1) else (if 1 = 1 then (guichetseat_Cass.l0 k1 a0 (wrap64 (1 + 1)) ((rd_T78 y107 (ji2)).f0) ((rd_T78 y107 (ji2)).f1) ((rd_T78 y107 (ji2)).f2) ((rd_T78 y107 (ji2)).f3) x113000_1 x113001_1 x113002_1 x113003_1 ji29 (rd y117 (Int.tmod (wrap64 (((Int.tdiv a0 4) % 256) + (wrap64 (3 * 1)))) 8)) 0 0 x113008_1 x113009_1 x113010_1 x113011_1 x113012_1 x113013_1 x113014_1 x113015_1) else (if 1 = 2 then (guichetseat_Cass.l0 k1 a0 (wrap64 (1 + 1)) ((rd_T78 y107 (ji2)).f0) ((rd_T78 y107 (ji2)).f1) ((rd_T78 y107 (ji2)).f2) ((rd_T78 y107 (ji2)).f3) x113000_1 x113001_1 x113002_1 x113003_1 x113004_1 x113005_1 x113006_1 x113007_1 ji29 (rd y117 (Int.tmod (wrap64 (((Int.tdiv a0 4) % 256) + (wrap64 (3 * 1)))) 8)) 0 0 x113012_1 x113013_1 x113014_1 x113015_1) else (if 1 = 3 then (guichetseat_Cass.l0 k1 a0 (wrap64 (1 + 1)) ((rd_T78 y107 (ji2)).f0) ((rd_T78 y107 (ji2)).f1) ((rd_T78 y107 (ji2)).f2) ((rd_T78 y107 (ji2)).f3) x113000_1 x113001_1 x113002_1 x113003_1 x113004_1 x113005_1 x113006_1 x113007_1 x113008_1 x113009_1 x113010_1 x113011_1 ji29 (rd y117 (Int.tmod (wrap64 (((Int.tdiv a0 4) % 256) + (wrap64 (3 * 1)))) 8)) 0 0) else (none))))) else (none)) else (none))) = some (r1, r2, r3, r4, r5, r6, r7, r8, r9, r10, r11, r12, r13, r14, r15, r16) := by first | (rw [hji29] at H; exact H) | (simp only [hji29] at H ⊢; exact H)
         have hji29_ : (if ((rd_T78 y107 (ji2)).f1) < 1 then 1 else ((rd_T78 y107 (ji2)).f1)) = ji29 := hji29
         obtain ⟨y117, hy117⟩ : ∃ y_ : List Int, y_ = (([0, 1, 2, 5, 9, 30, 100, 10000] : List Int)) := ⟨_, rfl⟩
         replace H : (if 0 ≤ (Int.tmod (wrap64 (((Int.tdiv a0 4) % 256) + (wrap64 (3 * 1)))) 8) then (if (Int.tmod (wrap64 (((Int.tdiv a0 4) % 256) + (wrap64 (3 * 1)))) 8) < (y117.length : Int) then (if 1 = 0 then (guichetseat_Cass.l0 k1 a0 (wrap64 (1 + 1)) ((rd_T78 y107 (ji2)).f0) ((rd_T78 y107 (ji2)).f1) ((rd_T78 y107 (ji2)).f2) ((rd_T78 y107 (ji2)).f3) ji29 (rd y117 (Int.tmod (wrap64 (((Int.tdiv a0 4) % 256) + (wrap64 (3 * 1)))) 8)) 0 0 x113004_1 x113005_1 x113006_1 x113007_1 x113008_1 x113009_1 x113010_1 x113011_1 x113012_1 x113013_1 x113014_1 x113015_1) else (if 1 = 1 then (guichetseat_Cass.l0 k1 a0 (wrap64 (1 + 1)) ((rd_T78 y107 (ji2)).f0) ((rd_T78 y107 (ji2)).f1) ((rd_T78 y107 (ji2)).f2) ((rd_T78 y107 (ji2)).f3) x113000_1 x113001_1 x113002_1 x113003_1 ji29 (rd y117 (Int.tmod (wrap64 (((Int.tdiv a0 4) % 256) + (wrap64 (3 * 1)))) 8)) 0 0 x113008_1 x113009_1 x113010_1 x113011_1 x113012_1 x113013_1 x113014_1 x113015_1) else (if 1 = 2 then (guichetseat_Cass.l0 k1 a0 (wrap64 (1 + 1)) ((rd_T78 y107 (ji2)).f0) ((rd_T78 y107 (ji2)).f1) ((rd_T78 y107 (ji2)).f2) ((rd_T78 y107 (ji2)).f3) x113000_1 x113001_1 x113002_1 x113003_1 x113004_1 x113005_1 x113006_1 x113007_1 ji29 (rd y117 (Int.tmod (wrap64 (((Int.tdiv a0 4) % 256) + (wrap64 (3 * 1)))) 8)) 0 0 x113012_1 x113013_1 x113014_1 x113015_1) else (if 1 = 3 then (guichetseat_Cass.l0 k1 a0 (wrap64 (1 + 1)) ((rd_T78 y107 (ji2)).f0) ((rd_T78 y107 (ji2)).f1) ((rd_T78 y107 (ji2)).f2) ((rd_T78 y107 (ji2)).f3) x113000_1 x113001_1 x113002_1 x113003_1 x113004_1 x113005_1 x113006_1 x113007_1 x113008_1 x113009_1 x113010_1 x113011_1 ji29 (rd y117 (Int.tmod (wrap64 (((Int.tdiv a0 4) % 256) + (wrap64 (3 * 1)))) 8)) 0 0) else (none))))) else (none)) else (none)) = some (r1, r2, r3, r4, r5, r6, r7, r8, r9, r10, r11, r12, r13, r14, r15, r16) := by first | (rw [hy117]; with_reducible exact H) | (have H2_ := (Option.bind_some _ _).symm.trans H; rw [hy117]; with_reducible exact H2_) | (have H2_ := (Option.bind_some _ _).symm.trans H; with_reducible exact H2_) | with_reducible exact H | (rw [hy117]; exact H) | exact H
         have Ny117 := Aside0.mk hy117
         clear hy117
         obtain ⟨ji30, hji30⟩ : ∃ j_ : Int, (Int.tmod (wrap64 (((Int.tdiv a0 4) % 256) + (wrap64 (3 * 1)))) 8) = j_ := ⟨_, rfl⟩
         have hjj30 : (wrap64 (wrap64 (IntKind.u8.wrap (a0.tdiv 4)) + wrap64 3)).tmod 8 = ji30 := by rw [← hji30, show IntKind.u8.wrap (a0.tdiv 4) = a0.tdiv 4 % 256 from rfl, show wrap64 (a0.tdiv 4 % 256) = a0.tdiv 4 % 256 from by unfold wrap64; omega]; rfl
         replace H : (if 0 ≤ (ji30) then (if (ji30) < (y117.length : Int) then (if 1 = 0 then (guichetseat_Cass.l0 k1 a0 (wrap64 (1 + 1)) ((rd_T78 y107 (ji2)).f0) ((rd_T78 y107 (ji2)).f1) ((rd_T78 y107 (ji2)).f2) ((rd_T78 y107 (ji2)).f3) ji29 (rd y117 (ji30)) 0 0 x113004_1 x113005_1 x113006_1 x113007_1 x113008_1 x113009_1 x113010_1 x113011_1 x113012_1 x113013_1 x113014_1 x113015_1) else (if 1 = 1 then (guichetseat_Cass.l0 k1 a0 (wrap64 (1 + 1)) ((rd_T78 y107 (ji2)).f0) ((rd_T78 y107 (ji2)).f1) ((rd_T78 y107 (ji2)).f2) ((rd_T78 y107 (ji2)).f3) x113000_1 x113001_1 x113002_1 x113003_1 ji29 (rd y117 (ji30)) 0 0 x113008_1 x113009_1 x113010_1 x113011_1 x113012_1 x113013_1 x113014_1 x113015_1) else (if 1 = 2 then (guichetseat_Cass.l0 k1 a0 (wrap64 (1 + 1)) ((rd_T78 y107 (ji2)).f0) ((rd_T78 y107 (ji2)).f1) ((rd_T78 y107 (ji2)).f2) ((rd_T78 y107 (ji2)).f3) x113000_1 x113001_1 x113002_1 x113003_1 x113004_1 x113005_1 x113006_1 x113007_1 ji29 (rd y117 (ji30)) 0 0 x113012_1 x113013_1 x113014_1 x113015_1) else (if 1 = 3 then (guichetseat_Cass.l0 k1 a0 (wrap64 (1 + 1)) ((rd_T78 y107 (ji2)).f0) ((rd_T78 y107 (ji2)).f1) ((rd_T78 y107 (ji2)).f2) ((rd_T78 y107 (ji2)).f3) x113000_1 x113001_1 x113002_1 x113003_1 x113004_1 x113005_1 x113006_1 x113007_1 x113008_1 x113009_1 x113010_1 x113011_1 ji29 (rd y117 (ji30)) 0 0) else (none))))) else (none)) else (none)) = some (r1, r2, r3, r4, r5, r6, r7, r8, r9, r10, r11, r12, r13, r14, r15, r16) := by first | (rw [hji30] at H; exact H) | (simp only [hji30] at H ⊢; exact H)
         by_cases c31 : 0 ≤ (ji30)
         ·rw [if_pos c31] at H
          have c31b0 : decide (0 ≤ (ji30)) = true := decide_eq_true c31
          clear c31
          by_cases c32 : (ji30) < (y117.length : Int)
          ·rw [if_pos c32] at H
           have c32b0 : decide ((ji30) < (y117.length : Int)) = true := decide_eq_true c32
           clear c32
           have H1 : (if 1 = 1 then (guichetseat_Cass.l0 k1 a0 (wrap64 (1 + 1)) ((rd_T78 y107 (ji2)).f0) ((rd_T78 y107 (ji2)).f1) ((rd_T78 y107 (ji2)).f2) ((rd_T78 y107 (ji2)).f3) x113000_1 x113001_1 x113002_1 x113003_1 ji29 (rd y117 (ji30)) 0 0 x113008_1 x113009_1 x113010_1 x113011_1 x113012_1 x113013_1 x113014_1 x113015_1) else (if 1 = 2 then (guichetseat_Cass.l0 k1 a0 (wrap64 (1 + 1)) ((rd_T78 y107 (ji2)).f0) ((rd_T78 y107 (ji2)).f1) ((rd_T78 y107 (ji2)).f2) ((rd_T78 y107 (ji2)).f3) x113000_1 x113001_1 x113002_1 x113003_1 x113004_1 x113005_1 x113006_1 x113007_1 ji29 (rd y117 (ji30)) 0 0 x113012_1 x113013_1 x113014_1 x113015_1) else (if 1 = 3 then (guichetseat_Cass.l0 k1 a0 (wrap64 (1 + 1)) ((rd_T78 y107 (ji2)).f0) ((rd_T78 y107 (ji2)).f1) ((rd_T78 y107 (ji2)).f2) ((rd_T78 y107 (ji2)).f3) x113000_1 x113001_1 x113002_1 x113003_1 x113004_1 x113005_1 x113006_1 x113007_1 x113008_1 x113009_1 x113010_1 x113011_1 ji29 (rd y117 (ji30)) 0 0) else (none)))) = some (r1, r2, r3, r4, r5, r6, r7, r8, r9, r10, r11, r12, r13, r14, r15, r16) := by rw [if_neg (by decide)] at H; exact H
           clear H
           have H := H1
           clear H1
           have H1 : (guichetseat_Cass.l0 k1 a0 (wrap64 (1 + 1)) ((rd_T78 y107 (ji2)).f0) ((rd_T78 y107 (ji2)).f1) ((rd_T78 y107 (ji2)).f2) ((rd_T78 y107 (ji2)).f3) x113000_1 x113001_1 x113002_1 x113003_1 ji29 (rd y117 (ji30)) 0 0 x113008_1 x113009_1 x113010_1 x113011_1 x113012_1 x113013_1 x113014_1 x113015_1) = some (r1, r2, r3, r4, r5, r6, r7, r8, r9, r10, r11, r12, r13, r14, r15, r16) := by rw [if_pos rfl] at H; exact H
           clear H
           have H := H1
           clear H1
           have H' := Aside0.mk H
           clear H
           try go_wp2
           have pi120 : (0 ≤ ((ji30) : Int)) = True := eq_true (of_decide_eq_true (by first | (with_reducible assumption) | assumption))
           have qi120 : ((ji30) < (y117.length : Int)) = True := eq_true (of_decide_eq_true (by first | (with_reducible assumption) | assumption))
           have n0_ := Aside0.mk (blk_drew BK106.out)
           have n1_ := Aside0.mk (blk_drew BK111.out)
           have n2_ := Aside0.mk (blk_drew BK112.out)
           have n3_ := Aside0.mk (below_drew1 HB.out)
           clear BK106
           clear BK111
           clear BK112
           clear HB
           have BK106 := n0_
           have BK111 := n1_
           have BK112 := n2_
           have HB := n3_
           clear n0_ n1_ n2_ n3_
           refine start_ (n := 18) (S := fun w' => w'.cell? ⟨gb111, 0, none⟩ = some (.int .i64 ((rd_T78 y107 (ji2)).f0)) ∧ w'.cell? ⟨gb111, 1, none⟩ = some (.int .i64 ((rd_T78 y107 (ji2)).f1)) ∧ w'.cell? ⟨gb111, 2, none⟩ = some (.int .i64 ((rd_T78 y107 (ji2)).f2)) ∧ w'.cell? ⟨gb111, 3, none⟩ = some (.int .i64 ((rd_T78 y107 (ji2)).f3))) (ds := []) #[false, false, false, false, false, false, false, false, false, false, false, false, false, false, false, false, false, false] (by kernel_rfl) rfl rfl ⟨(blk_cell BK111.out 0).trans rfl, (blk_cell BK111.out 1).trans rfl, (blk_cell BK111.out 2).trans rfl, (blk_cell BK111.out 3).trans rfl⟩ (fun hHeld => ?_); refine with_tabW guichetseat_Cass.tab6 guichetseat_Cass.bits6 (fun HT_ HW_ => ?_)
           generalize wr.drew = w35 at BK106 BK111 BK112 HB hHeld ⊢
           refine pure_ (i := 0) (N := some 19) (v := ?_) (a' := ?_) #[true, false, false, false, false, false, false, false, false, false, false, false, false, false, false, false, false, false] rfl rfl (any_of HT_.out (by kernel_rfl)) (fun _ _ _ h => h) (Or.inl ⟨by rfl, ?_⟩) ?_ ?_
           rotate_left
           ·intro w'
            go_simp
            with_reducible rfl
           rotate_left
           ·simp only [Act.put, List.setIfInBounds_toArray, List.set_cons_zero, List.set_cons_succ, i64_w, i32_w]
            rfl
           refine pure_ (i := 1) (N := some 20) (v := ?_) (a' := ?_) #[true, true, false, false, false, false, false, false, false, false, false, false, false, false, false, false, false, false] rfl rfl (any_of HT_.out (by kernel_rfl)) (fun _ _ _ h => h) (Or.inl ⟨by rfl, ?_⟩) ?_ ?_
           rotate_left
           ·intro w'
            go_simp
            with_reducible rfl
           rotate_left
           ·simp only [Act.put, List.setIfInBounds_toArray, List.set_cons_zero, List.set_cons_succ, i64_w, i32_w]
            rfl
           refine pure_ (i := 2) (N := some 21) (v := ?_) (a' := ?_) #[true, true, true, false, false, false, false, false, false, false, false, false, false, false, false, false, false, false] rfl rfl (any_of HT_.out (by kernel_rfl)) (fun _ _ _ h => h) (Or.inl ⟨by rfl, ?_⟩) ?_ ?_
           rotate_left
           ·intro w'
            go_simp
            with_reducible rfl
           rotate_left
           ·simp only [Act.put, List.setIfInBounds_toArray, List.set_cons_zero, List.set_cons_succ, i64_w, i32_w]
            rfl
           refine pure_ (i := 6) (N := some 25) (v := ?_) (a' := ?_) #[true, true, true, false, false, false, true, false, false, false, false, false, false, false, false, false, false, false] rfl rfl (any_of HT_.out (by kernel_rfl)) (fun _ _ _ h => h) (Or.inl ⟨by rfl, ?_⟩) ?_ ?_
           rotate_left
           ·intro w'
            go_simp
            with_reducible rfl
           rotate_left
           ·simp only [Act.put, List.setIfInBounds_toArray, List.set_cons_zero, List.set_cons_succ, i64_w, i32_w]
            rfl
           refine pure_ (i := 7) (N := some 26) (v := ?_) (a' := ?_) #[true, true, true, false, false, false, true, true, false, false, false, false, false, false, false, false, false, false] rfl rfl (any_of HT_.out (by kernel_rfl)) (fun _ _ _ h => h) (Or.inl ⟨by rfl, ?_⟩) ?_ ?_
           rotate_left
           ·intro w'
            go_simp
            with_reducible rfl
           rotate_left
           ·simp only [Act.put, List.setIfInBounds_toArray, List.set_cons_zero, List.set_cons_succ, i64_w, i32_w]
            rfl
           refine pure_ (i := 8) (N := some 27) (v := ?_) (a' := ?_) #[true, true, true, false, false, false, true, true, true, false, false, false, false, false, false, false, false, false] rfl rfl (any_of HT_.out (by kernel_rfl)) (fun _ _ _ h => h) (Or.inl ⟨by rfl, ?_⟩) ?_ ?_
           rotate_left
           ·intro w'
            go_simp
            with_reducible rfl
           rotate_left
           ·simp only [Act.put, List.setIfInBounds_toArray, List.set_cons_zero, List.set_cons_succ, i64_w, i32_w]
            rfl
           refine pure_ (i := 9) (N := some 28) (v := ?_) (a' := ?_) #[true, true, true, false, false, false, true, true, true, true, false, false, false, false, false, false, false, false] rfl rfl (any_of HT_.out (by kernel_rfl)) (fun _ _ _ h => h) (Or.inl ⟨by rfl, ?_⟩) ?_ ?_
           rotate_left
           ·intro w'
            go_simp
            with_reducible rfl
           rotate_left
           ·simp only [Act.put, List.setIfInBounds_toArray, List.set_cons_zero, List.set_cons_succ, i64_w, i32_w]
            rfl
           refine pure_ (i := 10) (N := some 29) (v := ?_) (a' := ?_) #[true, true, true, false, false, false, true, true, true, true, true, false, false, false, false, false, false, false] rfl rfl (any_of HT_.out (by kernel_rfl)) (fun _ _ _ h => h) (Or.inl ⟨by rfl, ?_⟩) ?_ ?_
           rotate_left
           ·intro w'
            go_simp
            with_reducible rfl
           rotate_left
           ·simp only [Act.put, List.setIfInBounds_toArray, List.set_cons_zero, List.set_cons_succ, i64_w, i32_w]
            rfl
           refine pure_ (i := 11) (N := some 30) (v := ?_) (a' := ?_) #[true, true, true, false, false, false, true, true, true, true, true, true, false, false, false, false, false, false] rfl rfl (any_of HT_.out (by kernel_rfl)) (fun _ _ _ h => h) (Or.inl ⟨by rfl, ?_⟩) ?_ ?_
           rotate_left
           ·intro w'
            go_simp
            with_reducible rfl
           rotate_left
           ·simp only [Act.put, List.setIfInBounds_toArray, List.set_cons_zero, List.set_cons_succ, i64_w, i32_w]
            rfl
           refine pure_ (i := 12) (N := some 31) (v := ?_) (a' := ?_) #[true, true, true, false, false, false, true, true, true, true, true, true, true, false, false, false, false, false] rfl rfl (any_of HT_.out (by kernel_rfl)) (fun _ _ _ h => h) (Or.inl ⟨by rfl, ?_⟩) ?_ ?_
           rotate_left
           ·intro w'
            go_simp
            with_reducible rfl
           rotate_left
           ·simp only [Act.put, List.setIfInBounds_toArray, List.set_cons_zero, List.set_cons_succ, i64_w, i32_w]
            rfl
           refine take_ (i := 3) (N := some 22) (v := ?_) (a' := ?_) #[true, true, true, true, false, false, true, true, true, true, true, true, true, false, false, false, false, false] rfl rfl (take_ofW HT_.out HW_.out (by kernel_rfl)) (fun _ _ _ h => h) (Or.inl ⟨by rfl, ?_⟩) hHeld ?_ ?_
           rotate_left
           ·rintro w' ⟨s0, s1, s2, s3⟩
            go_simp
            with_reducible rfl
           rotate_left
           ·simp only [Act.put, List.setIfInBounds_toArray, List.set_cons_zero, List.set_cons_succ, i64_w, i32_w]
            rfl
           refine pure_ (i := 4) (N := some 23) (v := ?_) (a' := ?_) #[true, true, true, true, true, false, true, true, true, true, true, true, true, false, false, false, false, false] rfl rfl (any_of HT_.out (by kernel_rfl)) (fun _ _ _ h => h) (Or.inl ⟨by rfl, ?_⟩) ?_ ?_
           rotate_left
           ·intro w'
            go_simp
            with_reducible rfl
           rotate_left
           ·simp only [Act.put, List.setIfInBounds_toArray, List.set_cons_zero, List.set_cons_succ, i64_w, i32_w]
            rfl
           refine one_ (i := 5) (N := some 24) #[true, true, true, true, true, true, true, true, true, true, true, true, true, false, false, false, false, false] rfl rfl (one_of HT_.out (by kernel_rfl)) (by decide) (fun K hK => ?_)
           refine Kd.R_lit_step (Kd.int .i64) _ 3 ?hg (N := 24) ?hd (xs := ([0, 1, 2, 5, 9, 30, 100, 10000] : List Int)) (inner := [.int .i64 0, .int .i64 1, .int .i64 2, .int .i64 5, .int .i64 9, .int .i64 30, .int .i64 100, .int .i64 10000]) (ok := fun _ => True) (okp := fun _ => True) ?hr ?hp (fun _ hk => hk) trivial (Below.refl _ _) (Nat.le_refl _) (by simp) ?_; (case hd => rfl); (case hg => rfl); (case hr => first | (go_simp; done) | (go_simp; rfl)); (case hp => exact (Reps.one (show Kd.M (Kd.int .i64) _ _ _ 0 [.int .i64 0] from rfl) (Reps.one (show Kd.M (Kd.int .i64) _ _ _ 1 [.int .i64 1] from rfl) (Reps.one (show Kd.M (Kd.int .i64) _ _ _ 2 [.int .i64 2] from rfl) (Reps.one (show Kd.M (Kd.int .i64) _ _ _ 5 [.int .i64 5] from rfl) (Reps.one (show Kd.M (Kd.int .i64) _ _ _ 9 [.int .i64 9] from rfl) (Reps.one (show Kd.M (Kd.int .i64) _ _ _ 30 [.int .i64 30] from rfl) (Reps.one (show Kd.M (Kd.int .i64) _ _ _ 100 [.int .i64 100] from rfl) (Reps.one (show Kd.M (Kd.int .i64) _ _ _ 10000 [.int .i64 10000] from rfl) (Reps.none _ _))))))))))
           intro v118 w36 ho37 hb hg_ hnew_
           clear hg_ hnew_
           (first | rw [← Ny117.out] at ho37 | (simp only [Int.reduceToNat] at ho37; rw [← Ny117.out] at ho37))
           have n0_ := Aside0.mk (Kd.R_lower ho37 (below_size (by repeat (first | (with_reducible first | exact HB.out | apply below_alloc | apply pw_below_drewN | apply below_drew1 | refine below_set ?_ GE106.out | refine below_set ?_ GE111.out | refine below_set ?_ GE112.out) | exact HB.out))))
           have n1_ := Aside0.mk (blk_below (g := gb106) (o := .cells #[.int .i64 0, .int .i64 0, .int .i64 0, .int .i64 0, .int .i64 0, .int .i64 0, .int .i64 0, .int .i64 0, .int .i64 0, .int .i64 0, .int .i64 0, .int .i64 0, .int .i64 0, .int .i64 0, .int .i64 0, .int .i64 0] 31 (0, 0)) (by (with_reducible repeat (first | refine blk_drewN ?_ _ | refine blk_drew ?_ | refine blk_alloc ?_ _)); exact BK106.out) hb)
           have n2_ := Aside0.mk (blk_below (g := gb111) (o := .cells #[.int .i64 ((rd_T78 y107 (ji2)).f0), .int .i64 ((rd_T78 y107 (ji2)).f1), .int .i64 ((rd_T78 y107 (ji2)).f2), .int .i64 ((rd_T78 y107 (ji2)).f3)] 78 (0, 0)) (by (with_reducible repeat (first | refine blk_drewN ?_ _ | refine blk_drew ?_ | refine blk_alloc ?_ _)); exact BK111.out) hb)
           have n3_ := Aside0.mk (blk_below (g := gb112) (o := .cells #[.int .i64 x113000_1, .int .i64 x113001_1, .int .i64 x113002_1, .int .i64 x113003_1, .int .i64 x113004_1, .int .i64 x113005_1, .int .i64 x113006_1, .int .i64 x113007_1, .int .i64 x113008_1, .int .i64 x113009_1, .int .i64 x113010_1, .int .i64 x113011_1, .int .i64 x113012_1, .int .i64 x113013_1, .int .i64 x113014_1, .int .i64 x113015_1] 31 (0, 0)) (by (with_reducible repeat (first | refine blk_drewN ?_ _ | refine blk_drew ?_ | refine blk_alloc ?_ _)); exact BK112.out) hb)
           have n4_ := Aside0.mk (below_step (by repeat (first | (with_reducible first | exact HB.out | apply below_alloc | apply pw_below_drewN | apply below_drew1 | refine below_set ?_ GE106.out | refine below_set ?_ GE111.out | refine below_set ?_ GE112.out) | exact HB.out)) hb)
           clear BK106
           clear BK111
           clear BK112
           clear HB
           have HO119 := n0_
           have BK106 := n1_
           have BK111 := n2_
           have BK112 := n3_
           have HB := n4_
           clear n0_ n1_ n2_ n3_ n4_
           clear hb ho37
           obtain ⟨Ao38, co38, eo38⟩ := Kd.R_slice HO119.out
           subst eo38
           obtain ⟨ado38, fo38, _⟩ := Kd.at_int (Kd.R_reads' HO119.out).2.2 0 (by decide) (by rw [Ny117.out]; simp)
           cases fo38
           refine hK.out _ _ ⟨(blk_cell BK111.out 0).trans rfl, (blk_cell BK111.out 1).trans rfl, (blk_cell BK111.out 2).trans rfl, (blk_cell BK111.out 3).trans rfl⟩ (fun hHeld => ?_)
           clear hK K
           refine norm_ (a' := ?_) ?_ ?_
           rotate_left
           ·show Act.put _ (some 24) _ = _
            simp only [Act.put, List.setIfInBounds_toArray, List.set_cons_zero, List.set_cons_succ, i64_w, i32_w]
            rfl
           refine pure_ (i := 13) (N := some 32) (v := ?_) (a' := ?_) #[true, true, true, true, true, true, true, true, true, true, true, true, true, true, false, false, false, false] rfl rfl (any_of HT_.out (by kernel_rfl)) (fun _ _ _ h => h) (Or.inl ⟨by rfl, ?_⟩) ?_ ?_
           rotate_left
           ·intro w'
            go_simp
            with_reducible rfl
           rotate_left
           ·simp only [Act.put, List.setIfInBounds_toArray, List.set_cons_zero, List.set_cons_succ, i64_w, i32_w]
            rfl
           refine one_ (i := 14) (N := some 33) #[true, true, true, true, true, true, true, true, true, true, true, true, true, true, true, false, false, false] rfl rfl (one_of HT_.out (by kernel_rfl)) (by decide) (fun K hK => ?_)
           (have p120 : 0 ≤ ((ji30) : Int) := of_decide_eq_true (by first | (with_reducible assumption) | assumption); have q120 : (ji30) < (y117.length : Int) := of_decide_eq_true (by first | (with_reducible assumption) | assumption); obtain ⟨ad120, e120, hx120_0⟩ := Kd.at_int (Kd.R_reads' HO119.out).2.2 (ji30) p120 q120; obtain rfl : ado38 = ad120 := (by injection e120))
           refine value_ (w1 := ?_) (v := ?_) (by rfl) rfl ?_ ?_
           rotate_left 2
           ·go_simp
            constructor
            ·rfl
            ·rfl
           clear hx120_0
           refine hK.out _ _ ⟨(blk_cell BK111.out 0).trans rfl, (blk_cell BK111.out 1).trans rfl, (blk_cell BK111.out 2).trans rfl, (blk_cell BK111.out 3).trans rfl⟩ (fun hHeld => ?_)
           clear hK K
           refine norm_ (a' := ?_) ?_ ?_
           rotate_left
           ·show Act.put _ (some 33) _ = _
            simp only [Act.put, List.setIfInBounds_toArray, List.set_cons_zero, List.set_cons_succ, i64_w, i32_w]
            rfl
           refine pure_ (i := 15) (N := some 34) (v := ?_) (a' := ?_) #[true, true, true, true, true, true, true, true, true, true, true, true, true, true, true, true, false, false] rfl rfl (any_of HT_.out (by kernel_rfl)) (fun _ _ _ h => h) (Or.inl ⟨by rfl, ?_⟩) ?_ ?_
           rotate_left
           ·intro w'
            go_simp
            with_reducible rfl
           rotate_left
           ·simp only [Act.put, List.setIfInBounds_toArray, List.set_cons_zero, List.set_cons_succ, i64_w, i32_w]
            rfl
           refine pure_ (i := 16) (N := some 35) (v := ?_) (a' := ?_) #[true, true, true, true, true, true, true, true, true, true, true, true, true, true, true, true, true, false] rfl rfl (any_of HT_.out (by kernel_rfl)) (fun _ _ _ h => h) (Or.inl ⟨by rfl, ?_⟩) ?_ ?_
           rotate_left
           ·intro w'
            go_simp
            with_reducible rfl
           rotate_left
           ·simp only [Act.put, List.setIfInBounds_toArray, List.set_cons_zero, List.set_cons_succ, i64_w, i32_w]
            rfl
           refine one_ (i := 17) (N := none) #[true, true, true, true, true, true, true, true, true, true, true, true, true, true, true, true, true, true] rfl rfl (one_of HT_.out (by kernel_rfl)) (by decide) (fun K hK => ?_)
           have hs39 : w36.cell? ⟨gb112, 4, none⟩ = some (.int .i64 x113004_1) := (blk_cell BK112.out 4).trans rfl
           have hfs39 := blk_frozen BK112.out 4
           have hns39_0 := NB106_112.out
           have hns39_1 := NB111_112.out
           have hms39_0 := NB112_106.out
           have hms39_1 := NB112_111.out
           have hs40 : w36.cell? ⟨gb112, 5, none⟩ = some (.int .i64 x113005_1) := (blk_cell BK112.out 5).trans rfl
           have hfs40 := blk_frozen BK112.out 5
           have hns40_0 := NB106_112.out
           have hns40_1 := NB111_112.out
           have hms40_0 := NB112_106.out
           have hms40_1 := NB112_111.out
           have hs41 : w36.cell? ⟨gb112, 6, none⟩ = some (.int .i64 x113006_1) := (blk_cell BK112.out 6).trans rfl
           have hfs41 := blk_frozen BK112.out 6
           have hns41_0 := NB106_112.out
           have hns41_1 := NB111_112.out
           have hms41_0 := NB112_106.out
           have hms41_1 := NB112_111.out
           have hs42 : w36.cell? ⟨gb112, 7, none⟩ = some (.int .i64 x113007_1) := (blk_cell BK112.out 7).trans rfl
           have hfs42 := blk_frozen BK112.out 7
           have hns42_0 := NB106_112.out
           have hns42_1 := NB111_112.out
           have hms42_0 := NB112_106.out
           have hms42_1 := NB112_111.out
           refine skip_ (w1 := ?_) (by rfl) rfl ?_ ?_
           rotate_left
           ·go_simp
            rfl
           refine hK.out _ _ ⟨((cell_far (p := ⟨gb112, _, none⟩) NB111_112.out _).trans (((cell_far (p := ⟨gb112, _, none⟩) NB111_112.out _).trans (((cell_far (p := ⟨gb112, _, none⟩) NB111_112.out _).trans (((cell_far (p := ⟨gb112, _, none⟩) NB111_112.out _).trans (hHeld.1)))))))), ((cell_far (p := ⟨gb112, _, none⟩) NB111_112.out _).trans (((cell_far (p := ⟨gb112, _, none⟩) NB111_112.out _).trans (((cell_far (p := ⟨gb112, _, none⟩) NB111_112.out _).trans (((cell_far (p := ⟨gb112, _, none⟩) NB111_112.out _).trans (hHeld.2.1)))))))), ((cell_far (p := ⟨gb112, _, none⟩) NB111_112.out _).trans (((cell_far (p := ⟨gb112, _, none⟩) NB111_112.out _).trans (((cell_far (p := ⟨gb112, _, none⟩) NB111_112.out _).trans (((cell_far (p := ⟨gb112, _, none⟩) NB111_112.out _).trans (hHeld.2.2.1)))))))), ((cell_far (p := ⟨gb112, _, none⟩) NB111_112.out _).trans (((cell_far (p := ⟨gb112, _, none⟩) NB111_112.out _).trans (((cell_far (p := ⟨gb112, _, none⟩) NB111_112.out _).trans (((cell_far (p := ⟨gb112, _, none⟩) NB111_112.out _).trans (hHeld.2.2.2))))))))⟩ (fun hHeld => ?_)
           clear hK K
           refine done_ (done_of HT_.out (by kernel_rfl)) ?_
           try go_wp2
           go_roundg k1
           case measure => have := HK1.out; omega
           case rel => exact ⟨(wrap64 (1 + 1)), (x113000_1), (x113001_1), (x113002_1), (x113003_1), (ji29), (rd y117 (ji30)), (0), (0), (x113008_1), (x113009_1), (x113010_1), (x113011_1), (x113012_1), (x113013_1), (x113014_1), (x113015_1), (by first | rfl | (simp; done) | (simp [*]; done) | (congr 1; unfold wrap64; omega)), H', ⟨by have := HK1.out; omega⟩, ⟨by (with_reducible repeat (first | refine blk_drewN ?_ _ | refine blk_drew ?_ | refine blk_alloc ?_ _)); refine blk_far ?_ NB106_112.out _; (with_reducible repeat (first | refine blk_drewN ?_ _ | refine blk_drew ?_ | refine blk_alloc ?_ _)); refine blk_far ?_ NB106_112.out _; (with_reducible repeat (first | refine blk_drewN ?_ _ | refine blk_drew ?_ | refine blk_alloc ?_ _)); refine blk_far ?_ NB106_112.out _; (with_reducible repeat (first | refine blk_drewN ?_ _ | refine blk_drew ?_ | refine blk_alloc ?_ _)); refine blk_far ?_ NB106_112.out _; (with_reducible repeat (first | refine blk_drewN ?_ _ | refine blk_drew ?_ | refine blk_alloc ?_ _)); exact BK106.out⟩, ⟨by (with_reducible repeat (first | refine blk_drewN ?_ _ | refine blk_drew ?_ | refine blk_alloc ?_ _)); refine blk_far ?_ NB111_112.out _; (with_reducible repeat (first | refine blk_drewN ?_ _ | refine blk_drew ?_ | refine blk_alloc ?_ _)); refine blk_far ?_ NB111_112.out _; (with_reducible repeat (first | refine blk_drewN ?_ _ | refine blk_drew ?_ | refine blk_alloc ?_ _)); refine blk_far ?_ NB111_112.out _; (with_reducible repeat (first | refine blk_drewN ?_ _ | refine blk_drew ?_ | refine blk_alloc ?_ _)); refine blk_far ?_ NB111_112.out _; (with_reducible repeat (first | refine blk_drewN ?_ _ | refine blk_drew ?_ | refine blk_alloc ?_ _)); exact BK111.out⟩, ⟨by (with_reducible repeat (first | refine blk_drewN ?_ _ | refine blk_drew ?_ | refine blk_alloc ?_ _)); refine blk_put (cs := #[.int .i64 x113000_1, .int .i64 x113001_1, .int .i64 x113002_1, .int .i64 x113003_1, .int .i64 ji29, .int .i64 (rd y117 (ji30)), .int .i64 0, .int .i64 x113007_1, .int .i64 x113008_1, .int .i64 x113009_1, .int .i64 x113010_1, .int .i64 x113011_1, .int .i64 x113012_1, .int .i64 x113013_1, .int .i64 x113014_1, .int .i64 x113015_1]) ?_ 7 _ rfl; (with_reducible repeat (first | refine blk_drewN ?_ _ | refine blk_drew ?_ | refine blk_alloc ?_ _)); refine blk_put (cs := #[.int .i64 x113000_1, .int .i64 x113001_1, .int .i64 x113002_1, .int .i64 x113003_1, .int .i64 ji29, .int .i64 (rd y117 (ji30)), .int .i64 x113006_1, .int .i64 x113007_1, .int .i64 x113008_1, .int .i64 x113009_1, .int .i64 x113010_1, .int .i64 x113011_1, .int .i64 x113012_1, .int .i64 x113013_1, .int .i64 x113014_1, .int .i64 x113015_1]) ?_ 6 _ rfl; (with_reducible repeat (first | refine blk_drewN ?_ _ | refine blk_drew ?_ | refine blk_alloc ?_ _)); refine blk_put (cs := #[.int .i64 x113000_1, .int .i64 x113001_1, .int .i64 x113002_1, .int .i64 x113003_1, .int .i64 ji29, .int .i64 x113005_1, .int .i64 x113006_1, .int .i64 x113007_1, .int .i64 x113008_1, .int .i64 x113009_1, .int .i64 x113010_1, .int .i64 x113011_1, .int .i64 x113012_1, .int .i64 x113013_1, .int .i64 x113014_1, .int .i64 x113015_1]) ?_ 5 _ rfl; (with_reducible repeat (first | refine blk_drewN ?_ _ | refine blk_drew ?_ | refine blk_alloc ?_ _)); refine blk_put (cs := #[.int .i64 x113000_1, .int .i64 x113001_1, .int .i64 x113002_1, .int .i64 x113003_1, .int .i64 x113004_1, .int .i64 x113005_1, .int .i64 x113006_1, .int .i64 x113007_1, .int .i64 x113008_1, .int .i64 x113009_1, .int .i64 x113010_1, .int .i64 x113011_1, .int .i64 x113012_1, .int .i64 x113013_1, .int .i64 x113014_1, .int .i64 x113015_1]) ?_ 4 _ rfl; (with_reducible repeat (first | refine blk_drewN ?_ _ | refine blk_drew ?_ | refine blk_alloc ?_ _)); exact BK112.out⟩, ⟨by repeat (first | (with_reducible first | exact HB.out | apply below_alloc | apply pw_below_drewN | apply below_drew1 | refine below_set ?_ GE106.out | refine below_set ?_ GE111.out | refine below_set ?_ GE112.out) | exact HB.out)⟩⟩
          ·rw [if_neg c32] at H
           exact absurd H (by simp)
         ·rw [if_neg c31] at H
          exact absurd H (by simp)
        ·rw [if_neg c28] at H
         by_cases c43 : x5_1 = 2
         ·subst c43
          have H1 : ((some (([0, 1, 2, 5, 9, 30, 100, 10000] : List Int) : List Int)).bind fun y121 => (if 0 ≤ (Int.tmod (wrap64 (((Int.tdiv a0 4) % 256) + (wrap64 (3 * 2)))) 8) then (if (Int.tmod (wrap64 (((Int.tdiv a0 4) % 256) + (wrap64 (3 * 2)))) 8) < (y121.length : Int) then (if 2 = 0 then (guichetseat_Cass.l0 k1 a0 (wrap64 (2 + 1)) ((rd_T78 y107 (ji2)).f0) ((rd_T78 y107 (ji2)).f1) ((rd_T78 y107 (ji2)).f2) ((rd_T78 y107 (ji2)).f3) (mx ((rd_T78 y107 (ji2)).f2) 1) (rd y121 (Int.tmod (wrap64 (((Int.tdiv a0 4) % 256) + (wrap64 (3 * 2)))) 8)) 0 0 x113004_1 x113005_1 x113006_1 x113007_1 x113008_1 x113009_1 x113010_1 x113011_1 x113012_1 x113013_1 x113014_1 x113015_1) else (if 2 = 1 then (guichetseat_Cass.l0 k1 a0 (wrap64 (2 + 1)) ((rd_T78 y107 (ji2)).f0) ((rd_T78 y107 (ji2)).f1) ((rd_T78 y107 (ji2)).f2) ((rd_T78 y107 (ji2)).f3) x113000_1 x113001_1 x113002_1 x113003_1 (mx ((rd_T78 y107 (ji2)).f2) 1) (rd y121 (Int.tmod (wrap64 (((Int.tdiv a0 4) % 256) + (wrap64 (3 * 2)))) 8)) 0 0 x113008_1 x113009_1 x113010_1 x113011_1 x113012_1 x113013_1 x113014_1 x113015_1) else (if 2 = 2 then (guichetseat_Cass.l0 k1 a0 (wrap64 (2 + 1)) ((rd_T78 y107 (ji2)).f0) ((rd_T78 y107 (ji2)).f1) ((rd_T78 y107 (ji2)).f2) ((rd_T78 y107 (ji2)).f3) x113000_1 x113001_1 x113002_1 x113003_1 x113004_1 x113005_1 x113006_1 x113007_1 (mx ((rd_T78 y107 (ji2)).f2) 1) (rd y121 (Int.tmod (wrap64 (((Int.tdiv a0 4) % 256) + (wrap64 (3 * 2)))) 8)) 0 0 x113012_1 x113013_1 x113014_1 x113015_1) else (if 2 = 3 then (guichetseat_Cass.l0 k1 a0 (wrap64 (2 + 1)) ((rd_T78 y107 (ji2)).f0) ((rd_T78 y107 (ji2)).f1) ((rd_T78 y107 (ji2)).f2) ((rd_T78 y107 (ji2)).f3) x113000_1 x113001_1 x113002_1 x113003_1 x113004_1 x113005_1 x113006_1 x113007_1 x113008_1 x113009_1 x113010_1 x113011_1 (mx ((rd_T78 y107 (ji2)).f2) 1) (rd y121 (Int.tmod (wrap64 (((Int.tdiv a0 4) % 256) + (wrap64 (3 * 2)))) 8)) 0 0) else (none))))) else (none)) else (none))) = some (r1, r2, r3, r4, r5, r6, r7, r8, r9, r10, r11, r12, r13, r14, r15, r16) := by rw [if_pos rfl] at H; exact H
          clear H
          have H := H1
          clear H1
          obtain ⟨ji44, hji44⟩ : ∃ j_ : Int, (mx ((rd_T78 y107 (ji2)).f2) 1) = j_ := ⟨_, rfl⟩
          replace H : ((some (([0, 1, 2, 5, 9, 30, 100, 10000] : List Int) : List Int)).bind fun y121 => (if 0 ≤ (Int.tmod (wrap64 (((Int.tdiv a0 4) % 256) + (wrap64 (3 * 2)))) 8) then (if (Int.tmod (wrap64 (((Int.tdiv a0 4) % 256) + (wrap64 (3 * 2)))) 8) < (y121.length : Int) then (if 2 = 0 then (guichetseat_Cass.l0 k1 a0 (wrap64 (2 + 1)) ((rd_T78 y107 (ji2)).f0) ((rd_T78 y107 (ji2)).f1) ((rd_T78 y107 (ji2)).f2) ((rd_T78 y107 (ji2)).f3) ji44 (rd y121 (Int.tmod (wrap64 (((Int.tdiv a0 4) % 256) + (wrap64 (3 * 2)))) 8)) 0 0 x113004_1 x113005_1 x113006_1 x113007_1 x113008_1 x113009_1 x113010_1 x113011_1 x113012_1 x113013_1 x113014_1 x113015_1) else (if 2 = 1 then (guichetseat_Cass.l0 k1 a0 (wrap64 (2 + 1)) ((rd_T78 y107 (ji2)).f0) ((rd_T78 y107 (ji2)).f1) ((rd_T78 y107 (ji2)).f2) ((rd_T78 y107 (ji2)).f3) x113000_1 x113001_1 x113002_1 x113003_1 ji44 (rd y121 (Int.tmod (wrap64 (((Int.tdiv a0 4) % 256) + (wrap64 (3 * 2)))) 8)) 0 0 x113008_1 x113009_1 x113010_1 x113011_1 x113012_1 x113013_1 x113014_1 x113015_1) else (if 2 = 2 then (guichetseat_Cass.l0 k1 a0 (wrap64 (2 + 1)) ((rd_T78 y107 (ji2)).f0) ((rd_T78 y107 (ji2)).f1) ((rd_T78 y107 (ji2)).f2) ((rd_T78 y107 (ji2)).f3) x113000_1 x113001_1 x113002_1 x113003_1 x113004_1 x113005_1 x113006_1 x113007_1 ji44 (rd y121 (Int.tmod (wrap64 (((Int.tdiv a0 4) % 256) + (wrap64 (3 * 2)))) 8)) 0 0 x113012_1 x113013_1 x113014_1 x113015_1) else (if 2 = 3 then (guichetseat_Cass.l0 k1 a0 (wrap64 (2 + 1)) ((rd_T78 y107 (ji2)).f0) ((rd_T78 y107 (ji2)).f1) ((rd_T78 y107 (ji2)).f2) ((rd_T78 y107 (ji2)).f3) x113000_1 x113001_1 x113002_1 x113003_1 x113004_1 x113005_1 x113006_1 x113007_1 x113008_1 x113009_1 x113010_1 x113011_1 ji44 (rd y121 (Int.tmod (wrap64 (((Int.tdiv a0 4) % 256) + (wrap64 (3 * 2)))) 8)) 0 0) else (none))))) else (none)) else (none))) = some (r1, r2, r3, r4, r5, r6, r7, r8, r9, r10, r11, r12, r13, r14, r15, r16) := by first | (rw [hji44] at H; exact H) | (simp only [hji44] at H ⊢; exact H)
          have hji44_ : (if ((rd_T78 y107 (ji2)).f2) < 1 then 1 else ((rd_T78 y107 (ji2)).f2)) = ji44 := hji44
          obtain ⟨y121, hy121⟩ : ∃ y_ : List Int, y_ = (([0, 1, 2, 5, 9, 30, 100, 10000] : List Int)) := ⟨_, rfl⟩
          replace H : (if 0 ≤ (Int.tmod (wrap64 (((Int.tdiv a0 4) % 256) + (wrap64 (3 * 2)))) 8) then (if (Int.tmod (wrap64 (((Int.tdiv a0 4) % 256) + (wrap64 (3 * 2)))) 8) < (y121.length : Int) then (if 2 = 0 then (guichetseat_Cass.l0 k1 a0 (wrap64 (2 + 1)) ((rd_T78 y107 (ji2)).f0) ((rd_T78 y107 (ji2)).f1) ((rd_T78 y107 (ji2)).f2) ((rd_T78 y107 (ji2)).f3) ji44 (rd y121 (Int.tmod (wrap64 (((Int.tdiv a0 4) % 256) + (wrap64 (3 * 2)))) 8)) 0 0 x113004_1 x113005_1 x113006_1 x113007_1 x113008_1 x113009_1 x113010_1 x113011_1 x113012_1 x113013_1 x113014_1 x113015_1) else (if 2 = 1 then (guichetseat_Cass.l0 k1 a0 (wrap64 (2 + 1)) ((rd_T78 y107 (ji2)).f0) ((rd_T78 y107 (ji2)).f1) ((rd_T78 y107 (ji2)).f2) ((rd_T78 y107 (ji2)).f3) x113000_1 x113001_1 x113002_1 x113003_1 ji44 (rd y121 (Int.tmod (wrap64 (((Int.tdiv a0 4) % 256) + (wrap64 (3 * 2)))) 8)) 0 0 x113008_1 x113009_1 x113010_1 x113011_1 x113012_1 x113013_1 x113014_1 x113015_1) else (if 2 = 2 then (guichetseat_Cass.l0 k1 a0 (wrap64 (2 + 1)) ((rd_T78 y107 (ji2)).f0) ((rd_T78 y107 (ji2)).f1) ((rd_T78 y107 (ji2)).f2) ((rd_T78 y107 (ji2)).f3) x113000_1 x113001_1 x113002_1 x113003_1 x113004_1 x113005_1 x113006_1 x113007_1 ji44 (rd y121 (Int.tmod (wrap64 (((Int.tdiv a0 4) % 256) + (wrap64 (3 * 2)))) 8)) 0 0 x113012_1 x113013_1 x113014_1 x113015_1) else (if 2 = 3 then (guichetseat_Cass.l0 k1 a0 (wrap64 (2 + 1)) ((rd_T78 y107 (ji2)).f0) ((rd_T78 y107 (ji2)).f1) ((rd_T78 y107 (ji2)).f2) ((rd_T78 y107 (ji2)).f3) x113000_1 x113001_1 x113002_1 x113003_1 x113004_1 x113005_1 x113006_1 x113007_1 x113008_1 x113009_1 x113010_1 x113011_1 ji44 (rd y121 (Int.tmod (wrap64 (((Int.tdiv a0 4) % 256) + (wrap64 (3 * 2)))) 8)) 0 0) else (none))))) else (none)) else (none)) = some (r1, r2, r3, r4, r5, r6, r7, r8, r9, r10, r11, r12, r13, r14, r15, r16) := by first | (rw [hy121]; with_reducible exact H) | (have H2_ := (Option.bind_some _ _).symm.trans H; rw [hy121]; with_reducible exact H2_) | (have H2_ := (Option.bind_some _ _).symm.trans H; with_reducible exact H2_) | with_reducible exact H | (rw [hy121]; exact H) | exact H
          have Ny121 := Aside0.mk hy121
          clear hy121
          obtain ⟨ji45, hji45⟩ : ∃ j_ : Int, (Int.tmod (wrap64 (((Int.tdiv a0 4) % 256) + (wrap64 (3 * 2)))) 8) = j_ := ⟨_, rfl⟩
          have hjj45 : (wrap64 (wrap64 (IntKind.u8.wrap (a0.tdiv 4)) + wrap64 6)).tmod 8 = ji45 := by rw [← hji45, show IntKind.u8.wrap (a0.tdiv 4) = a0.tdiv 4 % 256 from rfl, show wrap64 (a0.tdiv 4 % 256) = a0.tdiv 4 % 256 from by unfold wrap64; omega]; rfl
          replace H : (if 0 ≤ (ji45) then (if (ji45) < (y121.length : Int) then (if 2 = 0 then (guichetseat_Cass.l0 k1 a0 (wrap64 (2 + 1)) ((rd_T78 y107 (ji2)).f0) ((rd_T78 y107 (ji2)).f1) ((rd_T78 y107 (ji2)).f2) ((rd_T78 y107 (ji2)).f3) ji44 (rd y121 (ji45)) 0 0 x113004_1 x113005_1 x113006_1 x113007_1 x113008_1 x113009_1 x113010_1 x113011_1 x113012_1 x113013_1 x113014_1 x113015_1) else (if 2 = 1 then (guichetseat_Cass.l0 k1 a0 (wrap64 (2 + 1)) ((rd_T78 y107 (ji2)).f0) ((rd_T78 y107 (ji2)).f1) ((rd_T78 y107 (ji2)).f2) ((rd_T78 y107 (ji2)).f3) x113000_1 x113001_1 x113002_1 x113003_1 ji44 (rd y121 (ji45)) 0 0 x113008_1 x113009_1 x113010_1 x113011_1 x113012_1 x113013_1 x113014_1 x113015_1) else (if 2 = 2 then (guichetseat_Cass.l0 k1 a0 (wrap64 (2 + 1)) ((rd_T78 y107 (ji2)).f0) ((rd_T78 y107 (ji2)).f1) ((rd_T78 y107 (ji2)).f2) ((rd_T78 y107 (ji2)).f3) x113000_1 x113001_1 x113002_1 x113003_1 x113004_1 x113005_1 x113006_1 x113007_1 ji44 (rd y121 (ji45)) 0 0 x113012_1 x113013_1 x113014_1 x113015_1) else (if 2 = 3 then (guichetseat_Cass.l0 k1 a0 (wrap64 (2 + 1)) ((rd_T78 y107 (ji2)).f0) ((rd_T78 y107 (ji2)).f1) ((rd_T78 y107 (ji2)).f2) ((rd_T78 y107 (ji2)).f3) x113000_1 x113001_1 x113002_1 x113003_1 x113004_1 x113005_1 x113006_1 x113007_1 x113008_1 x113009_1 x113010_1 x113011_1 ji44 (rd y121 (ji45)) 0 0) else (none))))) else (none)) else (none)) = some (r1, r2, r3, r4, r5, r6, r7, r8, r9, r10, r11, r12, r13, r14, r15, r16) := by first | (rw [hji45] at H; exact H) | (simp only [hji45] at H ⊢; exact H)
          by_cases c46 : 0 ≤ (ji45)
          ·rw [if_pos c46] at H
           have c46b0 : decide (0 ≤ (ji45)) = true := decide_eq_true c46
           clear c46
           by_cases c47 : (ji45) < (y121.length : Int)
           ·rw [if_pos c47] at H
            have c47b0 : decide ((ji45) < (y121.length : Int)) = true := decide_eq_true c47
            clear c47
            have H1 : (if 2 = 1 then (guichetseat_Cass.l0 k1 a0 (wrap64 (2 + 1)) ((rd_T78 y107 (ji2)).f0) ((rd_T78 y107 (ji2)).f1) ((rd_T78 y107 (ji2)).f2) ((rd_T78 y107 (ji2)).f3) x113000_1 x113001_1 x113002_1 x113003_1 ji44 (rd y121 (ji45)) 0 0 x113008_1 x113009_1 x113010_1 x113011_1 x113012_1 x113013_1 x113014_1 x113015_1) else (if 2 = 2 then (guichetseat_Cass.l0 k1 a0 (wrap64 (2 + 1)) ((rd_T78 y107 (ji2)).f0) ((rd_T78 y107 (ji2)).f1) ((rd_T78 y107 (ji2)).f2) ((rd_T78 y107 (ji2)).f3) x113000_1 x113001_1 x113002_1 x113003_1 x113004_1 x113005_1 x113006_1 x113007_1 ji44 (rd y121 (ji45)) 0 0 x113012_1 x113013_1 x113014_1 x113015_1) else (if 2 = 3 then (guichetseat_Cass.l0 k1 a0 (wrap64 (2 + 1)) ((rd_T78 y107 (ji2)).f0) ((rd_T78 y107 (ji2)).f1) ((rd_T78 y107 (ji2)).f2) ((rd_T78 y107 (ji2)).f3) x113000_1 x113001_1 x113002_1 x113003_1 x113004_1 x113005_1 x113006_1 x113007_1 x113008_1 x113009_1 x113010_1 x113011_1 ji44 (rd y121 (ji45)) 0 0) else (none)))) = some (r1, r2, r3, r4, r5, r6, r7, r8, r9, r10, r11, r12, r13, r14, r15, r16) := by rw [if_neg (by decide)] at H; exact H
            clear H
            have H := H1
            clear H1
            have H1 : (if 2 = 2 then (guichetseat_Cass.l0 k1 a0 (wrap64 (2 + 1)) ((rd_T78 y107 (ji2)).f0) ((rd_T78 y107 (ji2)).f1) ((rd_T78 y107 (ji2)).f2) ((rd_T78 y107 (ji2)).f3) x113000_1 x113001_1 x113002_1 x113003_1 x113004_1 x113005_1 x113006_1 x113007_1 ji44 (rd y121 (ji45)) 0 0 x113012_1 x113013_1 x113014_1 x113015_1) else (if 2 = 3 then (guichetseat_Cass.l0 k1 a0 (wrap64 (2 + 1)) ((rd_T78 y107 (ji2)).f0) ((rd_T78 y107 (ji2)).f1) ((rd_T78 y107 (ji2)).f2) ((rd_T78 y107 (ji2)).f3) x113000_1 x113001_1 x113002_1 x113003_1 x113004_1 x113005_1 x113006_1 x113007_1 x113008_1 x113009_1 x113010_1 x113011_1 ji44 (rd y121 (ji45)) 0 0) else (none))) = some (r1, r2, r3, r4, r5, r6, r7, r8, r9, r10, r11, r12, r13, r14, r15, r16) := by rw [if_neg (by decide)] at H; exact H
            clear H
            have H := H1
            clear H1
            have H1 : (guichetseat_Cass.l0 k1 a0 (wrap64 (2 + 1)) ((rd_T78 y107 (ji2)).f0) ((rd_T78 y107 (ji2)).f1) ((rd_T78 y107 (ji2)).f2) ((rd_T78 y107 (ji2)).f3) x113000_1 x113001_1 x113002_1 x113003_1 x113004_1 x113005_1 x113006_1 x113007_1 ji44 (rd y121 (ji45)) 0 0 x113012_1 x113013_1 x113014_1 x113015_1) = some (r1, r2, r3, r4, r5, r6, r7, r8, r9, r10, r11, r12, r13, r14, r15, r16) := by rw [if_pos rfl] at H; exact H
            clear H
            have H := H1
            clear H1
            have H' := Aside0.mk H
            clear H
            try go_wp2
            have pi124 : (0 ≤ ((ji45) : Int)) = True := eq_true (of_decide_eq_true (by first | (with_reducible assumption) | assumption))
            have qi124 : ((ji45) < (y121.length : Int)) = True := eq_true (of_decide_eq_true (by first | (with_reducible assumption) | assumption))
            have n0_ := Aside0.mk (blk_drew BK106.out)
            have n1_ := Aside0.mk (blk_drew BK111.out)
            have n2_ := Aside0.mk (blk_drew BK112.out)
            have n3_ := Aside0.mk (below_drew1 HB.out)
            clear BK106
            clear BK111
            clear BK112
            clear HB
            have BK106 := n0_
            have BK111 := n1_
            have BK112 := n2_
            have HB := n3_
            clear n0_ n1_ n2_ n3_
            refine start_ (n := 18) (S := fun w' => w'.cell? ⟨gb111, 0, none⟩ = some (.int .i64 ((rd_T78 y107 (ji2)).f0)) ∧ w'.cell? ⟨gb111, 1, none⟩ = some (.int .i64 ((rd_T78 y107 (ji2)).f1)) ∧ w'.cell? ⟨gb111, 2, none⟩ = some (.int .i64 ((rd_T78 y107 (ji2)).f2)) ∧ w'.cell? ⟨gb111, 3, none⟩ = some (.int .i64 ((rd_T78 y107 (ji2)).f3))) (ds := []) #[false, false, false, false, false, false, false, false, false, false, false, false, false, false, false, false, false, false] (by kernel_rfl) rfl rfl ⟨(blk_cell BK111.out 0).trans rfl, (blk_cell BK111.out 1).trans rfl, (blk_cell BK111.out 2).trans rfl, (blk_cell BK111.out 3).trans rfl⟩ (fun hHeld => ?_); refine with_tabW guichetseat_Cass.tab6 guichetseat_Cass.bits6 (fun HT_ HW_ => ?_)
            generalize wr.drew = w51 at BK106 BK111 BK112 HB hHeld ⊢
            refine pure_ (i := 0) (N := some 19) (v := ?_) (a' := ?_) #[true, false, false, false, false, false, false, false, false, false, false, false, false, false, false, false, false, false] rfl rfl (any_of HT_.out (by kernel_rfl)) (fun _ _ _ h => h) (Or.inl ⟨by rfl, ?_⟩) ?_ ?_
            rotate_left
            ·intro w'
             go_simp
             with_reducible rfl
            rotate_left
            ·simp only [Act.put, List.setIfInBounds_toArray, List.set_cons_zero, List.set_cons_succ, i64_w, i32_w]
             rfl
            refine pure_ (i := 1) (N := some 20) (v := ?_) (a' := ?_) #[true, true, false, false, false, false, false, false, false, false, false, false, false, false, false, false, false, false] rfl rfl (any_of HT_.out (by kernel_rfl)) (fun _ _ _ h => h) (Or.inl ⟨by rfl, ?_⟩) ?_ ?_
            rotate_left
            ·intro w'
             go_simp
             with_reducible rfl
            rotate_left
            ·simp only [Act.put, List.setIfInBounds_toArray, List.set_cons_zero, List.set_cons_succ, i64_w, i32_w]
             rfl
            refine pure_ (i := 2) (N := some 21) (v := ?_) (a' := ?_) #[true, true, true, false, false, false, false, false, false, false, false, false, false, false, false, false, false, false] rfl rfl (any_of HT_.out (by kernel_rfl)) (fun _ _ _ h => h) (Or.inl ⟨by rfl, ?_⟩) ?_ ?_
            rotate_left
            ·intro w'
             go_simp
             with_reducible rfl
            rotate_left
            ·simp only [Act.put, List.setIfInBounds_toArray, List.set_cons_zero, List.set_cons_succ, i64_w, i32_w]
             rfl
            refine pure_ (i := 6) (N := some 25) (v := ?_) (a' := ?_) #[true, true, true, false, false, false, true, false, false, false, false, false, false, false, false, false, false, false] rfl rfl (any_of HT_.out (by kernel_rfl)) (fun _ _ _ h => h) (Or.inl ⟨by rfl, ?_⟩) ?_ ?_
            rotate_left
            ·intro w'
             go_simp
             with_reducible rfl
            rotate_left
            ·simp only [Act.put, List.setIfInBounds_toArray, List.set_cons_zero, List.set_cons_succ, i64_w, i32_w]
             rfl
            refine pure_ (i := 7) (N := some 26) (v := ?_) (a' := ?_) #[true, true, true, false, false, false, true, true, false, false, false, false, false, false, false, false, false, false] rfl rfl (any_of HT_.out (by kernel_rfl)) (fun _ _ _ h => h) (Or.inl ⟨by rfl, ?_⟩) ?_ ?_
            rotate_left
            ·intro w'
             go_simp
             with_reducible rfl
            rotate_left
            ·simp only [Act.put, List.setIfInBounds_toArray, List.set_cons_zero, List.set_cons_succ, i64_w, i32_w]
             rfl
            refine pure_ (i := 8) (N := some 27) (v := ?_) (a' := ?_) #[true, true, true, false, false, false, true, true, true, false, false, false, false, false, false, false, false, false] rfl rfl (any_of HT_.out (by kernel_rfl)) (fun _ _ _ h => h) (Or.inl ⟨by rfl, ?_⟩) ?_ ?_
            rotate_left
            ·intro w'
             go_simp
             with_reducible rfl
            rotate_left
            ·simp only [Act.put, List.setIfInBounds_toArray, List.set_cons_zero, List.set_cons_succ, i64_w, i32_w]
             rfl
            refine pure_ (i := 9) (N := some 28) (v := ?_) (a' := ?_) #[true, true, true, false, false, false, true, true, true, true, false, false, false, false, false, false, false, false] rfl rfl (any_of HT_.out (by kernel_rfl)) (fun _ _ _ h => h) (Or.inl ⟨by rfl, ?_⟩) ?_ ?_
            rotate_left
            ·intro w'
             go_simp
             with_reducible rfl
            rotate_left
            ·simp only [Act.put, List.setIfInBounds_toArray, List.set_cons_zero, List.set_cons_succ, i64_w, i32_w]
             rfl
            refine pure_ (i := 10) (N := some 29) (v := ?_) (a' := ?_) #[true, true, true, false, false, false, true, true, true, true, true, false, false, false, false, false, false, false] rfl rfl (any_of HT_.out (by kernel_rfl)) (fun _ _ _ h => h) (Or.inl ⟨by rfl, ?_⟩) ?_ ?_
            rotate_left
            ·intro w'
             go_simp
             with_reducible rfl
            rotate_left
            ·simp only [Act.put, List.setIfInBounds_toArray, List.set_cons_zero, List.set_cons_succ, i64_w, i32_w]
             rfl
            refine pure_ (i := 11) (N := some 30) (v := ?_) (a' := ?_) #[true, true, true, false, false, false, true, true, true, true, true, true, false, false, false, false, false, false] rfl rfl (any_of HT_.out (by kernel_rfl)) (fun _ _ _ h => h) (Or.inl ⟨by rfl, ?_⟩) ?_ ?_
            rotate_left
            ·intro w'
             go_simp
             with_reducible rfl
            rotate_left
            ·simp only [Act.put, List.setIfInBounds_toArray, List.set_cons_zero, List.set_cons_succ, i64_w, i32_w]
             rfl
            refine pure_ (i := 12) (N := some 31) (v := ?_) (a' := ?_) #[true, true, true, false, false, false, true, true, true, true, true, true, true, false, false, false, false, false] rfl rfl (any_of HT_.out (by kernel_rfl)) (fun _ _ _ h => h) (Or.inl ⟨by rfl, ?_⟩) ?_ ?_
            rotate_left
            ·intro w'
             go_simp
             with_reducible rfl
            rotate_left
            ·simp only [Act.put, List.setIfInBounds_toArray, List.set_cons_zero, List.set_cons_succ, i64_w, i32_w]
             rfl
            refine take_ (i := 3) (N := some 22) (v := ?_) (a' := ?_) #[true, true, true, true, false, false, true, true, true, true, true, true, true, false, false, false, false, false] rfl rfl (take_ofW HT_.out HW_.out (by kernel_rfl)) (fun _ _ _ h => h) (Or.inl ⟨by rfl, ?_⟩) hHeld ?_ ?_
            rotate_left
            ·rintro w' ⟨s0, s1, s2, s3⟩
             go_simp
             with_reducible rfl
            rotate_left
            ·simp only [Act.put, List.setIfInBounds_toArray, List.set_cons_zero, List.set_cons_succ, i64_w, i32_w]
             rfl
            refine pure_ (i := 4) (N := some 23) (v := ?_) (a' := ?_) #[true, true, true, true, true, false, true, true, true, true, true, true, true, false, false, false, false, false] rfl rfl (any_of HT_.out (by kernel_rfl)) (fun _ _ _ h => h) (Or.inl ⟨by rfl, ?_⟩) ?_ ?_
            rotate_left
            ·intro w'
             go_simp
             with_reducible rfl
            rotate_left
            ·simp only [Act.put, List.setIfInBounds_toArray, List.set_cons_zero, List.set_cons_succ, i64_w, i32_w]
             rfl
            refine one_ (i := 5) (N := some 24) #[true, true, true, true, true, true, true, true, true, true, true, true, true, false, false, false, false, false] rfl rfl (one_of HT_.out (by kernel_rfl)) (by decide) (fun K hK => ?_)
            refine Kd.R_lit_step (Kd.int .i64) _ 3 ?hg (N := 24) ?hd (xs := ([0, 1, 2, 5, 9, 30, 100, 10000] : List Int)) (inner := [.int .i64 0, .int .i64 1, .int .i64 2, .int .i64 5, .int .i64 9, .int .i64 30, .int .i64 100, .int .i64 10000]) (ok := fun _ => True) (okp := fun _ => True) ?hr ?hp (fun _ hk => hk) trivial (Below.refl _ _) (Nat.le_refl _) (by simp) ?_; (case hd => rfl); (case hg => rfl); (case hr => first | (go_simp; done) | (go_simp; rfl)); (case hp => exact (Reps.one (show Kd.M (Kd.int .i64) _ _ _ 0 [.int .i64 0] from rfl) (Reps.one (show Kd.M (Kd.int .i64) _ _ _ 1 [.int .i64 1] from rfl) (Reps.one (show Kd.M (Kd.int .i64) _ _ _ 2 [.int .i64 2] from rfl) (Reps.one (show Kd.M (Kd.int .i64) _ _ _ 5 [.int .i64 5] from rfl) (Reps.one (show Kd.M (Kd.int .i64) _ _ _ 9 [.int .i64 9] from rfl) (Reps.one (show Kd.M (Kd.int .i64) _ _ _ 30 [.int .i64 30] from rfl) (Reps.one (show Kd.M (Kd.int .i64) _ _ _ 100 [.int .i64 100] from rfl) (Reps.one (show Kd.M (Kd.int .i64) _ _ _ 10000 [.int .i64 10000] from rfl) (Reps.none _ _))))))))))
            intro v122 w52 ho53 hb hg_ hnew_
            clear hg_ hnew_
            (first | rw [← Ny121.out] at ho53 | (simp only [Int.reduceToNat] at ho53; rw [← Ny121.out] at ho53))
            have n0_ := Aside0.mk (Kd.R_lower ho53 (below_size (by repeat (first | (with_reducible first | exact HB.out | apply below_alloc | apply pw_below_drewN | apply below_drew1 | refine below_set ?_ GE106.out | refine below_set ?_ GE111.out | refine below_set ?_ GE112.out) | exact HB.out))))
            have n1_ := Aside0.mk (blk_below (g := gb106) (o := .cells #[.int .i64 0, .int .i64 0, .int .i64 0, .int .i64 0, .int .i64 0, .int .i64 0, .int .i64 0, .int .i64 0, .int .i64 0, .int .i64 0, .int .i64 0, .int .i64 0, .int .i64 0, .int .i64 0, .int .i64 0, .int .i64 0] 31 (0, 0)) (by (with_reducible repeat (first | refine blk_drewN ?_ _ | refine blk_drew ?_ | refine blk_alloc ?_ _)); exact BK106.out) hb)
            have n2_ := Aside0.mk (blk_below (g := gb111) (o := .cells #[.int .i64 ((rd_T78 y107 (ji2)).f0), .int .i64 ((rd_T78 y107 (ji2)).f1), .int .i64 ((rd_T78 y107 (ji2)).f2), .int .i64 ((rd_T78 y107 (ji2)).f3)] 78 (0, 0)) (by (with_reducible repeat (first | refine blk_drewN ?_ _ | refine blk_drew ?_ | refine blk_alloc ?_ _)); exact BK111.out) hb)
            have n3_ := Aside0.mk (blk_below (g := gb112) (o := .cells #[.int .i64 x113000_1, .int .i64 x113001_1, .int .i64 x113002_1, .int .i64 x113003_1, .int .i64 x113004_1, .int .i64 x113005_1, .int .i64 x113006_1, .int .i64 x113007_1, .int .i64 x113008_1, .int .i64 x113009_1, .int .i64 x113010_1, .int .i64 x113011_1, .int .i64 x113012_1, .int .i64 x113013_1, .int .i64 x113014_1, .int .i64 x113015_1] 31 (0, 0)) (by (with_reducible repeat (first | refine blk_drewN ?_ _ | refine blk_drew ?_ | refine blk_alloc ?_ _)); exact BK112.out) hb)
            have n4_ := Aside0.mk (below_step (by repeat (first | (with_reducible first | exact HB.out | apply below_alloc | apply pw_below_drewN | apply below_drew1 | refine below_set ?_ GE106.out | refine below_set ?_ GE111.out | refine below_set ?_ GE112.out) | exact HB.out)) hb)
            clear BK106
            clear BK111
            clear BK112
            clear HB
            have HO123 := n0_
            have BK106 := n1_
            have BK111 := n2_
            have BK112 := n3_
            have HB := n4_
            clear n0_ n1_ n2_ n3_ n4_
            clear hb ho53
            obtain ⟨Ao54, co54, eo54⟩ := Kd.R_slice HO123.out
            subst eo54
            obtain ⟨ado54, fo54, _⟩ := Kd.at_int (Kd.R_reads' HO123.out).2.2 0 (by decide) (by rw [Ny121.out]; simp)
            cases fo54
            refine hK.out _ _ ⟨(blk_cell BK111.out 0).trans rfl, (blk_cell BK111.out 1).trans rfl, (blk_cell BK111.out 2).trans rfl, (blk_cell BK111.out 3).trans rfl⟩ (fun hHeld => ?_)
            clear hK K
            refine norm_ (a' := ?_) ?_ ?_
            rotate_left
            ·show Act.put _ (some 24) _ = _
             simp only [Act.put, List.setIfInBounds_toArray, List.set_cons_zero, List.set_cons_succ, i64_w, i32_w]
             rfl
            refine pure_ (i := 13) (N := some 32) (v := ?_) (a' := ?_) #[true, true, true, true, true, true, true, true, true, true, true, true, true, true, false, false, false, false] rfl rfl (any_of HT_.out (by kernel_rfl)) (fun _ _ _ h => h) (Or.inl ⟨by rfl, ?_⟩) ?_ ?_
            rotate_left
            ·intro w'
             go_simp
             with_reducible rfl
            rotate_left
            ·simp only [Act.put, List.setIfInBounds_toArray, List.set_cons_zero, List.set_cons_succ, i64_w, i32_w]
             rfl
            refine one_ (i := 14) (N := some 33) #[true, true, true, true, true, true, true, true, true, true, true, true, true, true, true, false, false, false] rfl rfl (one_of HT_.out (by kernel_rfl)) (by decide) (fun K hK => ?_)
            (have p124 : 0 ≤ ((ji45) : Int) := of_decide_eq_true (by first | (with_reducible assumption) | assumption); have q124 : (ji45) < (y121.length : Int) := of_decide_eq_true (by first | (with_reducible assumption) | assumption); obtain ⟨ad124, e124, hx124_0⟩ := Kd.at_int (Kd.R_reads' HO123.out).2.2 (ji45) p124 q124; obtain rfl : ado54 = ad124 := (by injection e124))
            refine value_ (w1 := ?_) (v := ?_) (by rfl) rfl ?_ ?_
            rotate_left 2
            ·go_simp
             constructor
             ·rfl
             ·rfl
            clear hx124_0
            refine hK.out _ _ ⟨(blk_cell BK111.out 0).trans rfl, (blk_cell BK111.out 1).trans rfl, (blk_cell BK111.out 2).trans rfl, (blk_cell BK111.out 3).trans rfl⟩ (fun hHeld => ?_)
            clear hK K
            refine norm_ (a' := ?_) ?_ ?_
            rotate_left
            ·show Act.put _ (some 33) _ = _
             simp only [Act.put, List.setIfInBounds_toArray, List.set_cons_zero, List.set_cons_succ, i64_w, i32_w]
             rfl
            refine pure_ (i := 15) (N := some 34) (v := ?_) (a' := ?_) #[true, true, true, true, true, true, true, true, true, true, true, true, true, true, true, true, false, false] rfl rfl (any_of HT_.out (by kernel_rfl)) (fun _ _ _ h => h) (Or.inl ⟨by rfl, ?_⟩) ?_ ?_
            rotate_left
            ·intro w'
             go_simp
             with_reducible rfl
            rotate_left
            ·simp only [Act.put, List.setIfInBounds_toArray, List.set_cons_zero, List.set_cons_succ, i64_w, i32_w]
             rfl
            refine pure_ (i := 16) (N := some 35) (v := ?_) (a' := ?_) #[true, true, true, true, true, true, true, true, true, true, true, true, true, true, true, true, true, false] rfl rfl (any_of HT_.out (by kernel_rfl)) (fun _ _ _ h => h) (Or.inl ⟨by rfl, ?_⟩) ?_ ?_
            rotate_left
            ·intro w'
             go_simp
             with_reducible rfl
            rotate_left
            ·simp only [Act.put, List.setIfInBounds_toArray, List.set_cons_zero, List.set_cons_succ, i64_w, i32_w]
             rfl
            refine one_ (i := 17) (N := none) #[true, true, true, true, true, true, true, true, true, true, true, true, true, true, true, true, true, true] rfl rfl (one_of HT_.out (by kernel_rfl)) (by decide) (fun K hK => ?_)
            have hs55 : w52.cell? ⟨gb112, 8, none⟩ = some (.int .i64 x113008_1) := (blk_cell BK112.out 8).trans rfl
            have hfs55 := blk_frozen BK112.out 8
            have hns55_0 := NB106_112.out
            have hns55_1 := NB111_112.out
            have hms55_0 := NB112_106.out
            have hms55_1 := NB112_111.out
            have hs56 : w52.cell? ⟨gb112, 9, none⟩ = some (.int .i64 x113009_1) := (blk_cell BK112.out 9).trans rfl
            have hfs56 := blk_frozen BK112.out 9
            have hns56_0 := NB106_112.out
            have hns56_1 := NB111_112.out
            have hms56_0 := NB112_106.out
            have hms56_1 := NB112_111.out
            have hs57 : w52.cell? ⟨gb112, 10, none⟩ = some (.int .i64 x113010_1) := (blk_cell BK112.out 10).trans rfl
            have hfs57 := blk_frozen BK112.out 10
            have hns57_0 := NB106_112.out
            have hns57_1 := NB111_112.out
            have hms57_0 := NB112_106.out
            have hms57_1 := NB112_111.out
            have hs58 : w52.cell? ⟨gb112, 11, none⟩ = some (.int .i64 x113011_1) := (blk_cell BK112.out 11).trans rfl
            have hfs58 := blk_frozen BK112.out 11
            have hns58_0 := NB106_112.out
            have hns58_1 := NB111_112.out
            have hms58_0 := NB112_106.out
            have hms58_1 := NB112_111.out
            refine skip_ (w1 := ?_) (by rfl) rfl ?_ ?_
            rotate_left
            ·go_simp
             rfl
            refine hK.out _ _ ⟨((cell_far (p := ⟨gb112, _, none⟩) NB111_112.out _).trans (((cell_far (p := ⟨gb112, _, none⟩) NB111_112.out _).trans (((cell_far (p := ⟨gb112, _, none⟩) NB111_112.out _).trans (((cell_far (p := ⟨gb112, _, none⟩) NB111_112.out _).trans (hHeld.1)))))))), ((cell_far (p := ⟨gb112, _, none⟩) NB111_112.out _).trans (((cell_far (p := ⟨gb112, _, none⟩) NB111_112.out _).trans (((cell_far (p := ⟨gb112, _, none⟩) NB111_112.out _).trans (((cell_far (p := ⟨gb112, _, none⟩) NB111_112.out _).trans (hHeld.2.1)))))))), ((cell_far (p := ⟨gb112, _, none⟩) NB111_112.out _).trans (((cell_far (p := ⟨gb112, _, none⟩) NB111_112.out _).trans (((cell_far (p := ⟨gb112, _, none⟩) NB111_112.out _).trans (((cell_far (p := ⟨gb112, _, none⟩) NB111_112.out _).trans (hHeld.2.2.1)))))))), ((cell_far (p := ⟨gb112, _, none⟩) NB111_112.out _).trans (((cell_far (p := ⟨gb112, _, none⟩) NB111_112.out _).trans (((cell_far (p := ⟨gb112, _, none⟩) NB111_112.out _).trans (((cell_far (p := ⟨gb112, _, none⟩) NB111_112.out _).trans (hHeld.2.2.2))))))))⟩ (fun hHeld => ?_)
            clear hK K
            refine done_ (done_of HT_.out (by kernel_rfl)) ?_
            try go_wp2
            go_roundg k1
            case measure => have := HK1.out; omega
            case rel => exact ⟨(wrap64 (2 + 1)), (x113000_1), (x113001_1), (x113002_1), (x113003_1), (x113004_1), (x113005_1), (x113006_1), (x113007_1), (ji44), (rd y121 (ji45)), (0), (0), (x113012_1), (x113013_1), (x113014_1), (x113015_1), (by first | rfl | (simp; done) | (simp [*]; done) | (congr 1; unfold wrap64; omega)), H', ⟨by have := HK1.out; omega⟩, ⟨by (with_reducible repeat (first | refine blk_drewN ?_ _ | refine blk_drew ?_ | refine blk_alloc ?_ _)); refine blk_far ?_ NB106_112.out _; (with_reducible repeat (first | refine blk_drewN ?_ _ | refine blk_drew ?_ | refine blk_alloc ?_ _)); refine blk_far ?_ NB106_112.out _; (with_reducible repeat (first | refine blk_drewN ?_ _ | refine blk_drew ?_ | refine blk_alloc ?_ _)); refine blk_far ?_ NB106_112.out _; (with_reducible repeat (first | refine blk_drewN ?_ _ | refine blk_drew ?_ | refine blk_alloc ?_ _)); refine blk_far ?_ NB106_112.out _; (with_reducible repeat (first | refine blk_drewN ?_ _ | refine blk_drew ?_ | refine blk_alloc ?_ _)); exact BK106.out⟩, ⟨by (with_reducible repeat (first | refine blk_drewN ?_ _ | refine blk_drew ?_ | refine blk_alloc ?_ _)); refine blk_far ?_ NB111_112.out _; (with_reducible repeat (first | refine blk_drewN ?_ _ | refine blk_drew ?_ | refine blk_alloc ?_ _)); refine blk_far ?_ NB111_112.out _; (with_reducible repeat (first | refine blk_drewN ?_ _ | refine blk_drew ?_ | refine blk_alloc ?_ _)); refine blk_far ?_ NB111_112.out _; (with_reducible repeat (first | refine blk_drewN ?_ _ | refine blk_drew ?_ | refine blk_alloc ?_ _)); refine blk_far ?_ NB111_112.out _; (with_reducible repeat (first | refine blk_drewN ?_ _ | refine blk_drew ?_ | refine blk_alloc ?_ _)); exact BK111.out⟩, ⟨by (with_reducible repeat (first | refine blk_drewN ?_ _ | refine blk_drew ?_ | refine blk_alloc ?_ _)); refine blk_put (cs := #[.int .i64 x113000_1, .int .i64 x113001_1, .int .i64 x113002_1, .int .i64 x113003_1, .int .i64 x113004_1, .int .i64 x113005_1, .int .i64 x113006_1, .int .i64 x113007_1, .int .i64 ji44, .int .i64 (rd y121 (ji45)), .int .i64 0, .int .i64 x113011_1, .int .i64 x113012_1, .int .i64 x113013_1, .int .i64 x113014_1, .int .i64 x113015_1]) ?_ 11 _ rfl; (with_reducible repeat (first | refine blk_drewN ?_ _ | refine blk_drew ?_ | refine blk_alloc ?_ _)); refine blk_put (cs := #[.int .i64 x113000_1, .int .i64 x113001_1, .int .i64 x113002_1, .int .i64 x113003_1, .int .i64 x113004_1, .int .i64 x113005_1, .int .i64 x113006_1, .int .i64 x113007_1, .int .i64 ji44, .int .i64 (rd y121 (ji45)), .int .i64 x113010_1, .int .i64 x113011_1, .int .i64 x113012_1, .int .i64 x113013_1, .int .i64 x113014_1, .int .i64 x113015_1]) ?_ 10 _ rfl; (with_reducible repeat (first | refine blk_drewN ?_ _ | refine blk_drew ?_ | refine blk_alloc ?_ _)); refine blk_put (cs := #[.int .i64 x113000_1, .int .i64 x113001_1, .int .i64 x113002_1, .int .i64 x113003_1, .int .i64 x113004_1, .int .i64 x113005_1, .int .i64 x113006_1, .int .i64 x113007_1, .int .i64 ji44, .int .i64 x113009_1, .int .i64 x113010_1, .int .i64 x113011_1, .int .i64 x113012_1, .int .i64 x113013_1, .int .i64 x113014_1, .int .i64 x113015_1]) ?_ 9 _ rfl; (with_reducible repeat (first | refine blk_drewN ?_ _ | refine blk_drew ?_ | refine blk_alloc ?_ _)); refine blk_put (cs := #[.int .i64 x113000_1, .int .i64 x113001_1, .int .i64 x113002_1, .int .i64 x113003_1, .int .i64 x113004_1, .int .i64 x113005_1, .int .i64 x113006_1, .int .i64 x113007_1, .int .i64 x113008_1, .int .i64 x113009_1, .int .i64 x113010_1, .int .i64 x113011_1, .int .i64 x113012_1, .int .i64 x113013_1, .int .i64 x113014_1, .int .i64 x113015_1]) ?_ 8 _ rfl; (with_reducible repeat (first | refine blk_drewN ?_ _ | refine blk_drew ?_ | refine blk_alloc ?_ _)); exact BK112.out⟩, ⟨by repeat (first | (with_reducible first | exact HB.out | apply below_alloc | apply pw_below_drewN | apply below_drew1 | refine below_set ?_ GE106.out | refine below_set ?_ GE111.out | refine below_set ?_ GE112.out) | exact HB.out)⟩⟩
           ·rw [if_neg c47] at H
            exact absurd H (by simp)
          ·rw [if_neg c46] at H
           exact absurd H (by simp)
         ·rw [if_neg c43] at H
          by_cases c59 : x5_1 = 3
          ·subst c59
           have H1 : ((some (([0, 1, 2, 5, 9, 30, 100, 10000] : List Int) : List Int)).bind fun y125 => (if 0 ≤ (Int.tmod (wrap64 (((Int.tdiv a0 4) % 256) + (wrap64 (3 * 3)))) 8) then (if (Int.tmod (wrap64 (((Int.tdiv a0 4) % 256) + (wrap64 (3 * 3)))) 8) < (y125.length : Int) then (if 3 = 0 then (guichetseat_Cass.l0 k1 a0 (wrap64 (3 + 1)) ((rd_T78 y107 (ji2)).f0) ((rd_T78 y107 (ji2)).f1) ((rd_T78 y107 (ji2)).f2) ((rd_T78 y107 (ji2)).f3) (mx ((rd_T78 y107 (ji2)).f3) 1) (rd y125 (Int.tmod (wrap64 (((Int.tdiv a0 4) % 256) + (wrap64 (3 * 3)))) 8)) 0 0 x113004_1 x113005_1 x113006_1 x113007_1 x113008_1 x113009_1 x113010_1 x113011_1 x113012_1 x113013_1 x113014_1 x113015_1) else (if 3 = 1 then (guichetseat_Cass.l0 k1 a0 (wrap64 (3 + 1)) ((rd_T78 y107 (ji2)).f0) ((rd_T78 y107 (ji2)).f1) ((rd_T78 y107 (ji2)).f2) ((rd_T78 y107 (ji2)).f3) x113000_1 x113001_1 x113002_1 x113003_1 (mx ((rd_T78 y107 (ji2)).f3) 1) (rd y125 (Int.tmod (wrap64 (((Int.tdiv a0 4) % 256) + (wrap64 (3 * 3)))) 8)) 0 0 x113008_1 x113009_1 x113010_1 x113011_1 x113012_1 x113013_1 x113014_1 x113015_1) else (if 3 = 2 then (guichetseat_Cass.l0 k1 a0 (wrap64 (3 + 1)) ((rd_T78 y107 (ji2)).f0) ((rd_T78 y107 (ji2)).f1) ((rd_T78 y107 (ji2)).f2) ((rd_T78 y107 (ji2)).f3) x113000_1 x113001_1 x113002_1 x113003_1 x113004_1 x113005_1 x113006_1 x113007_1 (mx ((rd_T78 y107 (ji2)).f3) 1) (rd y125 (Int.tmod (wrap64 (((Int.tdiv a0 4) % 256) + (wrap64 (3 * 3)))) 8)) 0 0 x113012_1 x113013_1 x113014_1 x113015_1) else (if 3 = 3 then (guichetseat_Cass.l0 k1 a0 (wrap64 (3 + 1)) ((rd_T78 y107 (ji2)).f0) ((rd_T78 y107 (ji2)).f1) ((rd_T78 y107 (ji2)).f2) ((rd_T78 y107 (ji2)).f3) x113000_1 x113001_1 x113002_1 x113003_1 x113004_1 x113005_1 x113006_1 x113007_1 x113008_1 x113009_1 x113010_1 x113011_1 (mx ((rd_T78 y107 (ji2)).f3) 1) (rd y125 (Int.tmod (wrap64 (((Int.tdiv a0 4) % 256) + (wrap64 (3 * 3)))) 8)) 0 0) else (none))))) else (none)) else (none))) = some (r1, r2, r3, r4, r5, r6, r7, r8, r9, r10, r11, r12, r13, r14, r15, r16) := by rw [if_pos rfl] at H; exact H
           clear H
           have H := H1
           clear H1
           obtain ⟨ji60, hji60⟩ : ∃ j_ : Int, (mx ((rd_T78 y107 (ji2)).f3) 1) = j_ := ⟨_, rfl⟩
           replace H : ((some (([0, 1, 2, 5, 9, 30, 100, 10000] : List Int) : List Int)).bind fun y125 => (if 0 ≤ (Int.tmod (wrap64 (((Int.tdiv a0 4) % 256) + (wrap64 (3 * 3)))) 8) then (if (Int.tmod (wrap64 (((Int.tdiv a0 4) % 256) + (wrap64 (3 * 3)))) 8) < (y125.length : Int) then (if 3 = 0 then (guichetseat_Cass.l0 k1 a0 (wrap64 (3 + 1)) ((rd_T78 y107 (ji2)).f0) ((rd_T78 y107 (ji2)).f1) ((rd_T78 y107 (ji2)).f2) ((rd_T78 y107 (ji2)).f3) ji60 (rd y125 (Int.tmod (wrap64 (((Int.tdiv a0 4) % 256) + (wrap64 (3 * 3)))) 8)) 0 0 x113004_1 x113005_1 x113006_1 x113007_1 x113008_1 x113009_1 x113010_1 x113011_1 x113012_1 x113013_1 x113014_1 x113015_1) else (if 3 = 1 then (guichetseat_Cass.l0 k1 a0 (wrap64 (3 + 1)) ((rd_T78 y107 (ji2)).f0) ((rd_T78 y107 (ji2)).f1) ((rd_T78 y107 (ji2)).f2) ((rd_T78 y107 (ji2)).f3) x113000_1 x113001_1 x113002_1 x113003_1 ji60 (rd y125 (Int.tmod (wrap64 (((Int.tdiv a0 4) % 256) + (wrap64 (3 * 3)))) 8)) 0 0 x113008_1 x113009_1 x113010_1 x113011_1 x113012_1 x113013_1 x113014_1 x113015_1) else (if 3 = 2 then (guichetseat_Cass.l0 k1 a0 (wrap64 (3 + 1)) ((rd_T78 y107 (ji2)).f0) ((rd_T78 y107 (ji2)).f1) ((rd_T78 y107 (ji2)).f2) ((rd_T78 y107 (ji2)).f3) x113000_1 x113001_1 x113002_1 x113003_1 x113004_1 x113005_1 x113006_1 x113007_1 ji60 (rd y125 (Int.tmod (wrap64 (((Int.tdiv a0 4) % 256) + (wrap64 (3 * 3)))) 8)) 0 0 x113012_1 x113013_1 x113014_1 x113015_1) else (if 3 = 3 then (guichetseat_Cass.l0 k1 a0 (wrap64 (3 + 1)) ((rd_T78 y107 (ji2)).f0) ((rd_T78 y107 (ji2)).f1) ((rd_T78 y107 (ji2)).f2) ((rd_T78 y107 (ji2)).f3) x113000_1 x113001_1 x113002_1 x113003_1 x113004_1 x113005_1 x113006_1 x113007_1 x113008_1 x113009_1 x113010_1 x113011_1 ji60 (rd y125 (Int.tmod (wrap64 (((Int.tdiv a0 4) % 256) + (wrap64 (3 * 3)))) 8)) 0 0) else (none))))) else (none)) else (none))) = some (r1, r2, r3, r4, r5, r6, r7, r8, r9, r10, r11, r12, r13, r14, r15, r16) := by first | (rw [hji60] at H; exact H) | (simp only [hji60] at H ⊢; exact H)
           have hji60_ : (if ((rd_T78 y107 (ji2)).f3) < 1 then 1 else ((rd_T78 y107 (ji2)).f3)) = ji60 := hji60
           obtain ⟨y125, hy125⟩ : ∃ y_ : List Int, y_ = (([0, 1, 2, 5, 9, 30, 100, 10000] : List Int)) := ⟨_, rfl⟩
           replace H : (if 0 ≤ (Int.tmod (wrap64 (((Int.tdiv a0 4) % 256) + (wrap64 (3 * 3)))) 8) then (if (Int.tmod (wrap64 (((Int.tdiv a0 4) % 256) + (wrap64 (3 * 3)))) 8) < (y125.length : Int) then (if 3 = 0 then (guichetseat_Cass.l0 k1 a0 (wrap64 (3 + 1)) ((rd_T78 y107 (ji2)).f0) ((rd_T78 y107 (ji2)).f1) ((rd_T78 y107 (ji2)).f2) ((rd_T78 y107 (ji2)).f3) ji60 (rd y125 (Int.tmod (wrap64 (((Int.tdiv a0 4) % 256) + (wrap64 (3 * 3)))) 8)) 0 0 x113004_1 x113005_1 x113006_1 x113007_1 x113008_1 x113009_1 x113010_1 x113011_1 x113012_1 x113013_1 x113014_1 x113015_1) else (if 3 = 1 then (guichetseat_Cass.l0 k1 a0 (wrap64 (3 + 1)) ((rd_T78 y107 (ji2)).f0) ((rd_T78 y107 (ji2)).f1) ((rd_T78 y107 (ji2)).f2) ((rd_T78 y107 (ji2)).f3) x113000_1 x113001_1 x113002_1 x113003_1 ji60 (rd y125 (Int.tmod (wrap64 (((Int.tdiv a0 4) % 256) + (wrap64 (3 * 3)))) 8)) 0 0 x113008_1 x113009_1 x113010_1 x113011_1 x113012_1 x113013_1 x113014_1 x113015_1) else (if 3 = 2 then (guichetseat_Cass.l0 k1 a0 (wrap64 (3 + 1)) ((rd_T78 y107 (ji2)).f0) ((rd_T78 y107 (ji2)).f1) ((rd_T78 y107 (ji2)).f2) ((rd_T78 y107 (ji2)).f3) x113000_1 x113001_1 x113002_1 x113003_1 x113004_1 x113005_1 x113006_1 x113007_1 ji60 (rd y125 (Int.tmod (wrap64 (((Int.tdiv a0 4) % 256) + (wrap64 (3 * 3)))) 8)) 0 0 x113012_1 x113013_1 x113014_1 x113015_1) else (if 3 = 3 then (guichetseat_Cass.l0 k1 a0 (wrap64 (3 + 1)) ((rd_T78 y107 (ji2)).f0) ((rd_T78 y107 (ji2)).f1) ((rd_T78 y107 (ji2)).f2) ((rd_T78 y107 (ji2)).f3) x113000_1 x113001_1 x113002_1 x113003_1 x113004_1 x113005_1 x113006_1 x113007_1 x113008_1 x113009_1 x113010_1 x113011_1 ji60 (rd y125 (Int.tmod (wrap64 (((Int.tdiv a0 4) % 256) + (wrap64 (3 * 3)))) 8)) 0 0) else (none))))) else (none)) else (none)) = some (r1, r2, r3, r4, r5, r6, r7, r8, r9, r10, r11, r12, r13, r14, r15, r16) := by first | (rw [hy125]; with_reducible exact H) | (have H2_ := (Option.bind_some _ _).symm.trans H; rw [hy125]; with_reducible exact H2_) | (have H2_ := (Option.bind_some _ _).symm.trans H; with_reducible exact H2_) | with_reducible exact H | (rw [hy125]; exact H) | exact H
           have Ny125 := Aside0.mk hy125
           clear hy125
           obtain ⟨ji61, hji61⟩ : ∃ j_ : Int, (Int.tmod (wrap64 (((Int.tdiv a0 4) % 256) + (wrap64 (3 * 3)))) 8) = j_ := ⟨_, rfl⟩
           have hjj61 : (wrap64 (wrap64 (IntKind.u8.wrap (a0.tdiv 4)) + wrap64 9)).tmod 8 = ji61 := by rw [← hji61, show IntKind.u8.wrap (a0.tdiv 4) = a0.tdiv 4 % 256 from rfl, show wrap64 (a0.tdiv 4 % 256) = a0.tdiv 4 % 256 from by unfold wrap64; omega]; rfl
           replace H : (if 0 ≤ (ji61) then (if (ji61) < (y125.length : Int) then (if 3 = 0 then (guichetseat_Cass.l0 k1 a0 (wrap64 (3 + 1)) ((rd_T78 y107 (ji2)).f0) ((rd_T78 y107 (ji2)).f1) ((rd_T78 y107 (ji2)).f2) ((rd_T78 y107 (ji2)).f3) ji60 (rd y125 (ji61)) 0 0 x113004_1 x113005_1 x113006_1 x113007_1 x113008_1 x113009_1 x113010_1 x113011_1 x113012_1 x113013_1 x113014_1 x113015_1) else (if 3 = 1 then (guichetseat_Cass.l0 k1 a0 (wrap64 (3 + 1)) ((rd_T78 y107 (ji2)).f0) ((rd_T78 y107 (ji2)).f1) ((rd_T78 y107 (ji2)).f2) ((rd_T78 y107 (ji2)).f3) x113000_1 x113001_1 x113002_1 x113003_1 ji60 (rd y125 (ji61)) 0 0 x113008_1 x113009_1 x113010_1 x113011_1 x113012_1 x113013_1 x113014_1 x113015_1) else (if 3 = 2 then (guichetseat_Cass.l0 k1 a0 (wrap64 (3 + 1)) ((rd_T78 y107 (ji2)).f0) ((rd_T78 y107 (ji2)).f1) ((rd_T78 y107 (ji2)).f2) ((rd_T78 y107 (ji2)).f3) x113000_1 x113001_1 x113002_1 x113003_1 x113004_1 x113005_1 x113006_1 x113007_1 ji60 (rd y125 (ji61)) 0 0 x113012_1 x113013_1 x113014_1 x113015_1) else (if 3 = 3 then (guichetseat_Cass.l0 k1 a0 (wrap64 (3 + 1)) ((rd_T78 y107 (ji2)).f0) ((rd_T78 y107 (ji2)).f1) ((rd_T78 y107 (ji2)).f2) ((rd_T78 y107 (ji2)).f3) x113000_1 x113001_1 x113002_1 x113003_1 x113004_1 x113005_1 x113006_1 x113007_1 x113008_1 x113009_1 x113010_1 x113011_1 ji60 (rd y125 (ji61)) 0 0) else (none))))) else (none)) else (none)) = some (r1, r2, r3, r4, r5, r6, r7, r8, r9, r10, r11, r12, r13, r14, r15, r16) := by first | (rw [hji61] at H; exact H) | (simp only [hji61] at H ⊢; exact H)
           by_cases c62 : 0 ≤ (ji61)
           ·rw [if_pos c62] at H
            have c62b0 : decide (0 ≤ (ji61)) = true := decide_eq_true c62
            clear c62
            by_cases c63 : (ji61) < (y125.length : Int)
            ·rw [if_pos c63] at H
             have c63b0 : decide ((ji61) < (y125.length : Int)) = true := decide_eq_true c63
             clear c63
             have H1 : (if 3 = 1 then (guichetseat_Cass.l0 k1 a0 (wrap64 (3 + 1)) ((rd_T78 y107 (ji2)).f0) ((rd_T78 y107 (ji2)).f1) ((rd_T78 y107 (ji2)).f2) ((rd_T78 y107 (ji2)).f3) x113000_1 x113001_1 x113002_1 x113003_1 ji60 (rd y125 (ji61)) 0 0 x113008_1 x113009_1 x113010_1 x113011_1 x113012_1 x113013_1 x113014_1 x113015_1) else (if 3 = 2 then (guichetseat_Cass.l0 k1 a0 (wrap64 (3 + 1)) ((rd_T78 y107 (ji2)).f0) ((rd_T78 y107 (ji2)).f1) ((rd_T78 y107 (ji2)).f2) ((rd_T78 y107 (ji2)).f3) x113000_1 x113001_1 x113002_1 x113003_1 x113004_1 x113005_1 x113006_1 x113007_1 ji60 (rd y125 (ji61)) 0 0 x113012_1 x113013_1 x113014_1 x113015_1) else (if 3 = 3 then (guichetseat_Cass.l0 k1 a0 (wrap64 (3 + 1)) ((rd_T78 y107 (ji2)).f0) ((rd_T78 y107 (ji2)).f1) ((rd_T78 y107 (ji2)).f2) ((rd_T78 y107 (ji2)).f3) x113000_1 x113001_1 x113002_1 x113003_1 x113004_1 x113005_1 x113006_1 x113007_1 x113008_1 x113009_1 x113010_1 x113011_1 ji60 (rd y125 (ji61)) 0 0) else (none)))) = some (r1, r2, r3, r4, r5, r6, r7, r8, r9, r10, r11, r12, r13, r14, r15, r16) := by rw [if_neg (by decide)] at H; exact H
             clear H
             have H := H1
             clear H1
             have H1 : (if 3 = 2 then (guichetseat_Cass.l0 k1 a0 (wrap64 (3 + 1)) ((rd_T78 y107 (ji2)).f0) ((rd_T78 y107 (ji2)).f1) ((rd_T78 y107 (ji2)).f2) ((rd_T78 y107 (ji2)).f3) x113000_1 x113001_1 x113002_1 x113003_1 x113004_1 x113005_1 x113006_1 x113007_1 ji60 (rd y125 (ji61)) 0 0 x113012_1 x113013_1 x113014_1 x113015_1) else (if 3 = 3 then (guichetseat_Cass.l0 k1 a0 (wrap64 (3 + 1)) ((rd_T78 y107 (ji2)).f0) ((rd_T78 y107 (ji2)).f1) ((rd_T78 y107 (ji2)).f2) ((rd_T78 y107 (ji2)).f3) x113000_1 x113001_1 x113002_1 x113003_1 x113004_1 x113005_1 x113006_1 x113007_1 x113008_1 x113009_1 x113010_1 x113011_1 ji60 (rd y125 (ji61)) 0 0) else (none))) = some (r1, r2, r3, r4, r5, r6, r7, r8, r9, r10, r11, r12, r13, r14, r15, r16) := by rw [if_neg (by decide)] at H; exact H
             clear H
             have H := H1
             clear H1
             have H1 : (if 3 = 3 then (guichetseat_Cass.l0 k1 a0 (wrap64 (3 + 1)) ((rd_T78 y107 (ji2)).f0) ((rd_T78 y107 (ji2)).f1) ((rd_T78 y107 (ji2)).f2) ((rd_T78 y107 (ji2)).f3) x113000_1 x113001_1 x113002_1 x113003_1 x113004_1 x113005_1 x113006_1 x113007_1 x113008_1 x113009_1 x113010_1 x113011_1 ji60 (rd y125 (ji61)) 0 0) else (none)) = some (r1, r2, r3, r4, r5, r6, r7, r8, r9, r10, r11, r12, r13, r14, r15, r16) := by rw [if_neg (by decide)] at H; exact H
             clear H
             have H := H1
             clear H1
             have H1 : (guichetseat_Cass.l0 k1 a0 (wrap64 (3 + 1)) ((rd_T78 y107 (ji2)).f0) ((rd_T78 y107 (ji2)).f1) ((rd_T78 y107 (ji2)).f2) ((rd_T78 y107 (ji2)).f3) x113000_1 x113001_1 x113002_1 x113003_1 x113004_1 x113005_1 x113006_1 x113007_1 x113008_1 x113009_1 x113010_1 x113011_1 ji60 (rd y125 (ji61)) 0 0) = some (r1, r2, r3, r4, r5, r6, r7, r8, r9, r10, r11, r12, r13, r14, r15, r16) := by rw [if_pos rfl] at H; exact H
             clear H
             have H := H1
             clear H1
             have H' := Aside0.mk H
             clear H
             try go_wp2
             have pi128 : (0 ≤ ((ji61) : Int)) = True := eq_true (of_decide_eq_true (by first | (with_reducible assumption) | assumption))
             have qi128 : ((ji61) < (y125.length : Int)) = True := eq_true (of_decide_eq_true (by first | (with_reducible assumption) | assumption))
             have n0_ := Aside0.mk (blk_drew BK106.out)
             have n1_ := Aside0.mk (blk_drew BK111.out)
             have n2_ := Aside0.mk (blk_drew BK112.out)
             have n3_ := Aside0.mk (below_drew1 HB.out)
             clear BK106
             clear BK111
             clear BK112
             clear HB
             have BK106 := n0_
             have BK111 := n1_
             have BK112 := n2_
             have HB := n3_
             clear n0_ n1_ n2_ n3_
             refine start_ (n := 18) (S := fun w' => w'.cell? ⟨gb111, 0, none⟩ = some (.int .i64 ((rd_T78 y107 (ji2)).f0)) ∧ w'.cell? ⟨gb111, 1, none⟩ = some (.int .i64 ((rd_T78 y107 (ji2)).f1)) ∧ w'.cell? ⟨gb111, 2, none⟩ = some (.int .i64 ((rd_T78 y107 (ji2)).f2)) ∧ w'.cell? ⟨gb111, 3, none⟩ = some (.int .i64 ((rd_T78 y107 (ji2)).f3))) (ds := []) #[false, false, false, false, false, false, false, false, false, false, false, false, false, false, false, false, false, false] (by kernel_rfl) rfl rfl ⟨(blk_cell BK111.out 0).trans rfl, (blk_cell BK111.out 1).trans rfl, (blk_cell BK111.out 2).trans rfl, (blk_cell BK111.out 3).trans rfl⟩ (fun hHeld => ?_); refine with_tabW guichetseat_Cass.tab6 guichetseat_Cass.bits6 (fun HT_ HW_ => ?_)
             generalize wr.drew = w68 at BK106 BK111 BK112 HB hHeld ⊢
             refine pure_ (i := 0) (N := some 19) (v := ?_) (a' := ?_) #[true, false, false, false, false, false, false, false, false, false, false, false, false, false, false, false, false, false] rfl rfl (any_of HT_.out (by kernel_rfl)) (fun _ _ _ h => h) (Or.inl ⟨by rfl, ?_⟩) ?_ ?_
             rotate_left
             ·intro w'
              go_simp
              with_reducible rfl
             rotate_left
             ·simp only [Act.put, List.setIfInBounds_toArray, List.set_cons_zero, List.set_cons_succ, i64_w, i32_w]
              rfl
             refine pure_ (i := 1) (N := some 20) (v := ?_) (a' := ?_) #[true, true, false, false, false, false, false, false, false, false, false, false, false, false, false, false, false, false] rfl rfl (any_of HT_.out (by kernel_rfl)) (fun _ _ _ h => h) (Or.inl ⟨by rfl, ?_⟩) ?_ ?_
             rotate_left
             ·intro w'
              go_simp
              with_reducible rfl
             rotate_left
             ·simp only [Act.put, List.setIfInBounds_toArray, List.set_cons_zero, List.set_cons_succ, i64_w, i32_w]
              rfl
             refine pure_ (i := 2) (N := some 21) (v := ?_) (a' := ?_) #[true, true, true, false, false, false, false, false, false, false, false, false, false, false, false, false, false, false] rfl rfl (any_of HT_.out (by kernel_rfl)) (fun _ _ _ h => h) (Or.inl ⟨by rfl, ?_⟩) ?_ ?_
             rotate_left
             ·intro w'
              go_simp
              with_reducible rfl
             rotate_left
             ·simp only [Act.put, List.setIfInBounds_toArray, List.set_cons_zero, List.set_cons_succ, i64_w, i32_w]
              rfl
             refine pure_ (i := 6) (N := some 25) (v := ?_) (a' := ?_) #[true, true, true, false, false, false, true, false, false, false, false, false, false, false, false, false, false, false] rfl rfl (any_of HT_.out (by kernel_rfl)) (fun _ _ _ h => h) (Or.inl ⟨by rfl, ?_⟩) ?_ ?_
             rotate_left
             ·intro w'
              go_simp
              with_reducible rfl
             rotate_left
             ·simp only [Act.put, List.setIfInBounds_toArray, List.set_cons_zero, List.set_cons_succ, i64_w, i32_w]
              rfl
             refine pure_ (i := 7) (N := some 26) (v := ?_) (a' := ?_) #[true, true, true, false, false, false, true, true, false, false, false, false, false, false, false, false, false, false] rfl rfl (any_of HT_.out (by kernel_rfl)) (fun _ _ _ h => h) (Or.inl ⟨by rfl, ?_⟩) ?_ ?_
             rotate_left
             ·intro w'
              go_simp
              with_reducible rfl
             rotate_left
             ·simp only [Act.put, List.setIfInBounds_toArray, List.set_cons_zero, List.set_cons_succ, i64_w, i32_w]
              rfl
             refine pure_ (i := 8) (N := some 27) (v := ?_) (a' := ?_) #[true, true, true, false, false, false, true, true, true, false, false, false, false, false, false, false, false, false] rfl rfl (any_of HT_.out (by kernel_rfl)) (fun _ _ _ h => h) (Or.inl ⟨by rfl, ?_⟩) ?_ ?_
             rotate_left
             ·intro w'
              go_simp
              with_reducible rfl
             rotate_left
             ·simp only [Act.put, List.setIfInBounds_toArray, List.set_cons_zero, List.set_cons_succ, i64_w, i32_w]
              rfl
             refine pure_ (i := 9) (N := some 28) (v := ?_) (a' := ?_) #[true, true, true, false, false, false, true, true, true, true, false, false, false, false, false, false, false, false] rfl rfl (any_of HT_.out (by kernel_rfl)) (fun _ _ _ h => h) (Or.inl ⟨by rfl, ?_⟩) ?_ ?_
             rotate_left
             ·intro w'
              go_simp
              with_reducible rfl
             rotate_left
             ·simp only [Act.put, List.setIfInBounds_toArray, List.set_cons_zero, List.set_cons_succ, i64_w, i32_w]
              rfl
             refine pure_ (i := 10) (N := some 29) (v := ?_) (a' := ?_) #[true, true, true, false, false, false, true, true, true, true, true, false, false, false, false, false, false, false] rfl rfl (any_of HT_.out (by kernel_rfl)) (fun _ _ _ h => h) (Or.inl ⟨by rfl, ?_⟩) ?_ ?_
             rotate_left
             ·intro w'
              go_simp
              with_reducible rfl
             rotate_left
             ·simp only [Act.put, List.setIfInBounds_toArray, List.set_cons_zero, List.set_cons_succ, i64_w, i32_w]
              rfl
             refine pure_ (i := 11) (N := some 30) (v := ?_) (a' := ?_) #[true, true, true, false, false, false, true, true, true, true, true, true, false, false, false, false, false, false] rfl rfl (any_of HT_.out (by kernel_rfl)) (fun _ _ _ h => h) (Or.inl ⟨by rfl, ?_⟩) ?_ ?_
             rotate_left
             ·intro w'
              go_simp
              with_reducible rfl
             rotate_left
             ·simp only [Act.put, List.setIfInBounds_toArray, List.set_cons_zero, List.set_cons_succ, i64_w, i32_w]
              rfl
             refine pure_ (i := 12) (N := some 31) (v := ?_) (a' := ?_) #[true, true, true, false, false, false, true, true, true, true, true, true, true, false, false, false, false, false] rfl rfl (any_of HT_.out (by kernel_rfl)) (fun _ _ _ h => h) (Or.inl ⟨by rfl, ?_⟩) ?_ ?_
             rotate_left
             ·intro w'
              go_simp
              with_reducible rfl
             rotate_left
             ·simp only [Act.put, List.setIfInBounds_toArray, List.set_cons_zero, List.set_cons_succ, i64_w, i32_w]
              rfl
             refine take_ (i := 3) (N := some 22) (v := ?_) (a' := ?_) #[true, true, true, true, false, false, true, true, true, true, true, true, true, false, false, false, false, false] rfl rfl (take_ofW HT_.out HW_.out (by kernel_rfl)) (fun _ _ _ h => h) (Or.inl ⟨by rfl, ?_⟩) hHeld ?_ ?_
             rotate_left
             ·rintro w' ⟨s0, s1, s2, s3⟩
              go_simp
              with_reducible rfl
             rotate_left
             ·simp only [Act.put, List.setIfInBounds_toArray, List.set_cons_zero, List.set_cons_succ, i64_w, i32_w]
              rfl
             refine pure_ (i := 4) (N := some 23) (v := ?_) (a' := ?_) #[true, true, true, true, true, false, true, true, true, true, true, true, true, false, false, false, false, false] rfl rfl (any_of HT_.out (by kernel_rfl)) (fun _ _ _ h => h) (Or.inl ⟨by rfl, ?_⟩) ?_ ?_
             rotate_left
             ·intro w'
              go_simp
              with_reducible rfl
             rotate_left
             ·simp only [Act.put, List.setIfInBounds_toArray, List.set_cons_zero, List.set_cons_succ, i64_w, i32_w]
              rfl
             refine one_ (i := 5) (N := some 24) #[true, true, true, true, true, true, true, true, true, true, true, true, true, false, false, false, false, false] rfl rfl (one_of HT_.out (by kernel_rfl)) (by decide) (fun K hK => ?_)
             refine Kd.R_lit_step (Kd.int .i64) _ 3 ?hg (N := 24) ?hd (xs := ([0, 1, 2, 5, 9, 30, 100, 10000] : List Int)) (inner := [.int .i64 0, .int .i64 1, .int .i64 2, .int .i64 5, .int .i64 9, .int .i64 30, .int .i64 100, .int .i64 10000]) (ok := fun _ => True) (okp := fun _ => True) ?hr ?hp (fun _ hk => hk) trivial (Below.refl _ _) (Nat.le_refl _) (by simp) ?_; (case hd => rfl); (case hg => rfl); (case hr => first | (go_simp; done) | (go_simp; rfl)); (case hp => exact (Reps.one (show Kd.M (Kd.int .i64) _ _ _ 0 [.int .i64 0] from rfl) (Reps.one (show Kd.M (Kd.int .i64) _ _ _ 1 [.int .i64 1] from rfl) (Reps.one (show Kd.M (Kd.int .i64) _ _ _ 2 [.int .i64 2] from rfl) (Reps.one (show Kd.M (Kd.int .i64) _ _ _ 5 [.int .i64 5] from rfl) (Reps.one (show Kd.M (Kd.int .i64) _ _ _ 9 [.int .i64 9] from rfl) (Reps.one (show Kd.M (Kd.int .i64) _ _ _ 30 [.int .i64 30] from rfl) (Reps.one (show Kd.M (Kd.int .i64) _ _ _ 100 [.int .i64 100] from rfl) (Reps.one (show Kd.M (Kd.int .i64) _ _ _ 10000 [.int .i64 10000] from rfl) (Reps.none _ _))))))))))
             intro v126 w69 ho70 hb hg_ hnew_
             clear hg_ hnew_
             (first | rw [← Ny125.out] at ho70 | (simp only [Int.reduceToNat] at ho70; rw [← Ny125.out] at ho70))
             have n0_ := Aside0.mk (Kd.R_lower ho70 (below_size (by repeat (first | (with_reducible first | exact HB.out | apply below_alloc | apply pw_below_drewN | apply below_drew1 | refine below_set ?_ GE106.out | refine below_set ?_ GE111.out | refine below_set ?_ GE112.out) | exact HB.out))))
             have n1_ := Aside0.mk (blk_below (g := gb106) (o := .cells #[.int .i64 0, .int .i64 0, .int .i64 0, .int .i64 0, .int .i64 0, .int .i64 0, .int .i64 0, .int .i64 0, .int .i64 0, .int .i64 0, .int .i64 0, .int .i64 0, .int .i64 0, .int .i64 0, .int .i64 0, .int .i64 0] 31 (0, 0)) (by (with_reducible repeat (first | refine blk_drewN ?_ _ | refine blk_drew ?_ | refine blk_alloc ?_ _)); exact BK106.out) hb)
             have n2_ := Aside0.mk (blk_below (g := gb111) (o := .cells #[.int .i64 ((rd_T78 y107 (ji2)).f0), .int .i64 ((rd_T78 y107 (ji2)).f1), .int .i64 ((rd_T78 y107 (ji2)).f2), .int .i64 ((rd_T78 y107 (ji2)).f3)] 78 (0, 0)) (by (with_reducible repeat (first | refine blk_drewN ?_ _ | refine blk_drew ?_ | refine blk_alloc ?_ _)); exact BK111.out) hb)
             have n3_ := Aside0.mk (blk_below (g := gb112) (o := .cells #[.int .i64 x113000_1, .int .i64 x113001_1, .int .i64 x113002_1, .int .i64 x113003_1, .int .i64 x113004_1, .int .i64 x113005_1, .int .i64 x113006_1, .int .i64 x113007_1, .int .i64 x113008_1, .int .i64 x113009_1, .int .i64 x113010_1, .int .i64 x113011_1, .int .i64 x113012_1, .int .i64 x113013_1, .int .i64 x113014_1, .int .i64 x113015_1] 31 (0, 0)) (by (with_reducible repeat (first | refine blk_drewN ?_ _ | refine blk_drew ?_ | refine blk_alloc ?_ _)); exact BK112.out) hb)
             have n4_ := Aside0.mk (below_step (by repeat (first | (with_reducible first | exact HB.out | apply below_alloc | apply pw_below_drewN | apply below_drew1 | refine below_set ?_ GE106.out | refine below_set ?_ GE111.out | refine below_set ?_ GE112.out) | exact HB.out)) hb)
             clear BK106
             clear BK111
             clear BK112
             clear HB
             have HO127 := n0_
             have BK106 := n1_
             have BK111 := n2_
             have BK112 := n3_
             have HB := n4_
             clear n0_ n1_ n2_ n3_ n4_
             clear hb ho70
             obtain ⟨Ao71, co71, eo71⟩ := Kd.R_slice HO127.out
             subst eo71
             obtain ⟨ado71, fo71, _⟩ := Kd.at_int (Kd.R_reads' HO127.out).2.2 0 (by decide) (by rw [Ny125.out]; simp)
             cases fo71
             refine hK.out _ _ ⟨(blk_cell BK111.out 0).trans rfl, (blk_cell BK111.out 1).trans rfl, (blk_cell BK111.out 2).trans rfl, (blk_cell BK111.out 3).trans rfl⟩ (fun hHeld => ?_)
             clear hK K
             refine norm_ (a' := ?_) ?_ ?_
             rotate_left
             ·show Act.put _ (some 24) _ = _
              simp only [Act.put, List.setIfInBounds_toArray, List.set_cons_zero, List.set_cons_succ, i64_w, i32_w]
              rfl
             refine pure_ (i := 13) (N := some 32) (v := ?_) (a' := ?_) #[true, true, true, true, true, true, true, true, true, true, true, true, true, true, false, false, false, false] rfl rfl (any_of HT_.out (by kernel_rfl)) (fun _ _ _ h => h) (Or.inl ⟨by rfl, ?_⟩) ?_ ?_
             rotate_left
             ·intro w'
              go_simp
              with_reducible rfl
             rotate_left
             ·simp only [Act.put, List.setIfInBounds_toArray, List.set_cons_zero, List.set_cons_succ, i64_w, i32_w]
              rfl
             refine one_ (i := 14) (N := some 33) #[true, true, true, true, true, true, true, true, true, true, true, true, true, true, true, false, false, false] rfl rfl (one_of HT_.out (by kernel_rfl)) (by decide) (fun K hK => ?_)
             (have p128 : 0 ≤ ((ji61) : Int) := of_decide_eq_true (by first | (with_reducible assumption) | assumption); have q128 : (ji61) < (y125.length : Int) := of_decide_eq_true (by first | (with_reducible assumption) | assumption); obtain ⟨ad128, e128, hx128_0⟩ := Kd.at_int (Kd.R_reads' HO127.out).2.2 (ji61) p128 q128; obtain rfl : ado71 = ad128 := (by injection e128))
             refine value_ (w1 := ?_) (v := ?_) (by rfl) rfl ?_ ?_
             rotate_left 2
             ·go_simp
              constructor
              ·rfl
              ·rfl
             clear hx128_0
             refine hK.out _ _ ⟨(blk_cell BK111.out 0).trans rfl, (blk_cell BK111.out 1).trans rfl, (blk_cell BK111.out 2).trans rfl, (blk_cell BK111.out 3).trans rfl⟩ (fun hHeld => ?_)
             clear hK K
             refine norm_ (a' := ?_) ?_ ?_
             rotate_left
             ·show Act.put _ (some 33) _ = _
              simp only [Act.put, List.setIfInBounds_toArray, List.set_cons_zero, List.set_cons_succ, i64_w, i32_w]
              rfl
             refine pure_ (i := 15) (N := some 34) (v := ?_) (a' := ?_) #[true, true, true, true, true, true, true, true, true, true, true, true, true, true, true, true, false, false] rfl rfl (any_of HT_.out (by kernel_rfl)) (fun _ _ _ h => h) (Or.inl ⟨by rfl, ?_⟩) ?_ ?_
             rotate_left
             ·intro w'
              go_simp
              with_reducible rfl
             rotate_left
             ·simp only [Act.put, List.setIfInBounds_toArray, List.set_cons_zero, List.set_cons_succ, i64_w, i32_w]
              rfl
             refine pure_ (i := 16) (N := some 35) (v := ?_) (a' := ?_) #[true, true, true, true, true, true, true, true, true, true, true, true, true, true, true, true, true, false] rfl rfl (any_of HT_.out (by kernel_rfl)) (fun _ _ _ h => h) (Or.inl ⟨by rfl, ?_⟩) ?_ ?_
             rotate_left
             ·intro w'
              go_simp
              with_reducible rfl
             rotate_left
             ·simp only [Act.put, List.setIfInBounds_toArray, List.set_cons_zero, List.set_cons_succ, i64_w, i32_w]
              rfl
             refine one_ (i := 17) (N := none) #[true, true, true, true, true, true, true, true, true, true, true, true, true, true, true, true, true, true] rfl rfl (one_of HT_.out (by kernel_rfl)) (by decide) (fun K hK => ?_)
             have hs72 : w69.cell? ⟨gb112, 12, none⟩ = some (.int .i64 x113012_1) := (blk_cell BK112.out 12).trans rfl
             have hfs72 := blk_frozen BK112.out 12
             have hns72_0 := NB106_112.out
             have hns72_1 := NB111_112.out
             have hms72_0 := NB112_106.out
             have hms72_1 := NB112_111.out
             have hs73 : w69.cell? ⟨gb112, 13, none⟩ = some (.int .i64 x113013_1) := (blk_cell BK112.out 13).trans rfl
             have hfs73 := blk_frozen BK112.out 13
             have hns73_0 := NB106_112.out
             have hns73_1 := NB111_112.out
             have hms73_0 := NB112_106.out
             have hms73_1 := NB112_111.out
             have hs74 : w69.cell? ⟨gb112, 14, none⟩ = some (.int .i64 x113014_1) := (blk_cell BK112.out 14).trans rfl
             have hfs74 := blk_frozen BK112.out 14
             have hns74_0 := NB106_112.out
             have hns74_1 := NB111_112.out
             have hms74_0 := NB112_106.out
             have hms74_1 := NB112_111.out
             have hs75 : w69.cell? ⟨gb112, 15, none⟩ = some (.int .i64 x113015_1) := (blk_cell BK112.out 15).trans rfl
             have hfs75 := blk_frozen BK112.out 15
             have hns75_0 := NB106_112.out
             have hns75_1 := NB111_112.out
             have hms75_0 := NB112_106.out
             have hms75_1 := NB112_111.out
             refine skip_ (w1 := ?_) (by rfl) rfl ?_ ?_
             rotate_left
             ·go_simp
              rfl
             refine hK.out _ _ ⟨((cell_far (p := ⟨gb112, _, none⟩) NB111_112.out _).trans (((cell_far (p := ⟨gb112, _, none⟩) NB111_112.out _).trans (((cell_far (p := ⟨gb112, _, none⟩) NB111_112.out _).trans (((cell_far (p := ⟨gb112, _, none⟩) NB111_112.out _).trans (hHeld.1)))))))), ((cell_far (p := ⟨gb112, _, none⟩) NB111_112.out _).trans (((cell_far (p := ⟨gb112, _, none⟩) NB111_112.out _).trans (((cell_far (p := ⟨gb112, _, none⟩) NB111_112.out _).trans (((cell_far (p := ⟨gb112, _, none⟩) NB111_112.out _).trans (hHeld.2.1)))))))), ((cell_far (p := ⟨gb112, _, none⟩) NB111_112.out _).trans (((cell_far (p := ⟨gb112, _, none⟩) NB111_112.out _).trans (((cell_far (p := ⟨gb112, _, none⟩) NB111_112.out _).trans (((cell_far (p := ⟨gb112, _, none⟩) NB111_112.out _).trans (hHeld.2.2.1)))))))), ((cell_far (p := ⟨gb112, _, none⟩) NB111_112.out _).trans (((cell_far (p := ⟨gb112, _, none⟩) NB111_112.out _).trans (((cell_far (p := ⟨gb112, _, none⟩) NB111_112.out _).trans (((cell_far (p := ⟨gb112, _, none⟩) NB111_112.out _).trans (hHeld.2.2.2))))))))⟩ (fun hHeld => ?_)
             clear hK K
             refine done_ (done_of HT_.out (by kernel_rfl)) ?_
             try go_wp2
             go_roundg k1
             case measure => have := HK1.out; omega
             case rel => exact ⟨(wrap64 (3 + 1)), (x113000_1), (x113001_1), (x113002_1), (x113003_1), (x113004_1), (x113005_1), (x113006_1), (x113007_1), (x113008_1), (x113009_1), (x113010_1), (x113011_1), (ji60), (rd y125 (ji61)), (0), (0), (by first | rfl | (simp; done) | (simp [*]; done) | (congr 1; unfold wrap64; omega)), H', ⟨by have := HK1.out; omega⟩, ⟨by (with_reducible repeat (first | refine blk_drewN ?_ _ | refine blk_drew ?_ | refine blk_alloc ?_ _)); refine blk_far ?_ NB106_112.out _; (with_reducible repeat (first | refine blk_drewN ?_ _ | refine blk_drew ?_ | refine blk_alloc ?_ _)); refine blk_far ?_ NB106_112.out _; (with_reducible repeat (first | refine blk_drewN ?_ _ | refine blk_drew ?_ | refine blk_alloc ?_ _)); refine blk_far ?_ NB106_112.out _; (with_reducible repeat (first | refine blk_drewN ?_ _ | refine blk_drew ?_ | refine blk_alloc ?_ _)); refine blk_far ?_ NB106_112.out _; (with_reducible repeat (first | refine blk_drewN ?_ _ | refine blk_drew ?_ | refine blk_alloc ?_ _)); exact BK106.out⟩, ⟨by (with_reducible repeat (first | refine blk_drewN ?_ _ | refine blk_drew ?_ | refine blk_alloc ?_ _)); refine blk_far ?_ NB111_112.out _; (with_reducible repeat (first | refine blk_drewN ?_ _ | refine blk_drew ?_ | refine blk_alloc ?_ _)); refine blk_far ?_ NB111_112.out _; (with_reducible repeat (first | refine blk_drewN ?_ _ | refine blk_drew ?_ | refine blk_alloc ?_ _)); refine blk_far ?_ NB111_112.out _; (with_reducible repeat (first | refine blk_drewN ?_ _ | refine blk_drew ?_ | refine blk_alloc ?_ _)); refine blk_far ?_ NB111_112.out _; (with_reducible repeat (first | refine blk_drewN ?_ _ | refine blk_drew ?_ | refine blk_alloc ?_ _)); exact BK111.out⟩, ⟨by (with_reducible repeat (first | refine blk_drewN ?_ _ | refine blk_drew ?_ | refine blk_alloc ?_ _)); refine blk_put (cs := #[.int .i64 x113000_1, .int .i64 x113001_1, .int .i64 x113002_1, .int .i64 x113003_1, .int .i64 x113004_1, .int .i64 x113005_1, .int .i64 x113006_1, .int .i64 x113007_1, .int .i64 x113008_1, .int .i64 x113009_1, .int .i64 x113010_1, .int .i64 x113011_1, .int .i64 ji60, .int .i64 (rd y125 (ji61)), .int .i64 0, .int .i64 x113015_1]) ?_ 15 _ rfl; (with_reducible repeat (first | refine blk_drewN ?_ _ | refine blk_drew ?_ | refine blk_alloc ?_ _)); refine blk_put (cs := #[.int .i64 x113000_1, .int .i64 x113001_1, .int .i64 x113002_1, .int .i64 x113003_1, .int .i64 x113004_1, .int .i64 x113005_1, .int .i64 x113006_1, .int .i64 x113007_1, .int .i64 x113008_1, .int .i64 x113009_1, .int .i64 x113010_1, .int .i64 x113011_1, .int .i64 ji60, .int .i64 (rd y125 (ji61)), .int .i64 x113014_1, .int .i64 x113015_1]) ?_ 14 _ rfl; (with_reducible repeat (first | refine blk_drewN ?_ _ | refine blk_drew ?_ | refine blk_alloc ?_ _)); refine blk_put (cs := #[.int .i64 x113000_1, .int .i64 x113001_1, .int .i64 x113002_1, .int .i64 x113003_1, .int .i64 x113004_1, .int .i64 x113005_1, .int .i64 x113006_1, .int .i64 x113007_1, .int .i64 x113008_1, .int .i64 x113009_1, .int .i64 x113010_1, .int .i64 x113011_1, .int .i64 ji60, .int .i64 x113013_1, .int .i64 x113014_1, .int .i64 x113015_1]) ?_ 13 _ rfl; (with_reducible repeat (first | refine blk_drewN ?_ _ | refine blk_drew ?_ | refine blk_alloc ?_ _)); refine blk_put (cs := #[.int .i64 x113000_1, .int .i64 x113001_1, .int .i64 x113002_1, .int .i64 x113003_1, .int .i64 x113004_1, .int .i64 x113005_1, .int .i64 x113006_1, .int .i64 x113007_1, .int .i64 x113008_1, .int .i64 x113009_1, .int .i64 x113010_1, .int .i64 x113011_1, .int .i64 x113012_1, .int .i64 x113013_1, .int .i64 x113014_1, .int .i64 x113015_1]) ?_ 12 _ rfl; (with_reducible repeat (first | refine blk_drewN ?_ _ | refine blk_drew ?_ | refine blk_alloc ?_ _)); exact BK112.out⟩, ⟨by repeat (first | (with_reducible first | exact HB.out | apply below_alloc | apply pw_below_drewN | apply below_drew1 | refine below_set ?_ GE106.out | refine below_set ?_ GE111.out | refine below_set ?_ GE112.out) | exact HB.out)⟩⟩
            ·rw [if_neg c63] at H
             exact absurd H (by simp)
           ·rw [if_neg c62] at H
            exact absurd H (by simp)
          ·rw [if_neg c59] at H
           exact absurd H (by simp)
      ·rw [if_neg c13] at H
       have c13b0 : decide (x5_1 < 4) = false := decide_eq_false c13
       clear c13
       simp only [Option.some.injEq, Prod.mk.injEq] at H
       obtain ⟨rfl, rfl, rfl, rfl, rfl, rfl, rfl, rfl, rfl, rfl, rfl, rfl, rfl, rfl, rfl, rfl⟩ := H
       have hnb76 := NB112_106.out
       have hnc76 := NB106_112.out
       have hnb77 := NB112_111.out
       have hnc77 := NB111_112.out
       have hcz78_0 : wr.cell? ⟨gb112, 0, none⟩ = some (.int .i64 x113000_1) := (blk_cell BK112.out 0).trans rfl
       have hcz78_1 : wr.cell? ⟨gb112, 1, none⟩ = some (.int .i64 x113001_1) := (blk_cell BK112.out 1).trans rfl
       have hcz78_2 : wr.cell? ⟨gb112, 2, none⟩ = some (.int .i64 x113002_1) := (blk_cell BK112.out 2).trans rfl
       have hcz78_3 : wr.cell? ⟨gb112, 3, none⟩ = some (.int .i64 x113003_1) := (blk_cell BK112.out 3).trans rfl
       have hcz78_4 : wr.cell? ⟨gb112, 4, none⟩ = some (.int .i64 x113004_1) := (blk_cell BK112.out 4).trans rfl
       have hcz78_5 : wr.cell? ⟨gb112, 5, none⟩ = some (.int .i64 x113005_1) := (blk_cell BK112.out 5).trans rfl
       have hcz78_6 : wr.cell? ⟨gb112, 6, none⟩ = some (.int .i64 x113006_1) := (blk_cell BK112.out 6).trans rfl
       have hcz78_7 : wr.cell? ⟨gb112, 7, none⟩ = some (.int .i64 x113007_1) := (blk_cell BK112.out 7).trans rfl
       have hcz78_8 : wr.cell? ⟨gb112, 8, none⟩ = some (.int .i64 x113008_1) := (blk_cell BK112.out 8).trans rfl
       have hcz78_9 : wr.cell? ⟨gb112, 9, none⟩ = some (.int .i64 x113009_1) := (blk_cell BK112.out 9).trans rfl
       have hcz78_10 : wr.cell? ⟨gb112, 10, none⟩ = some (.int .i64 x113010_1) := (blk_cell BK112.out 10).trans rfl
       have hcz78_11 : wr.cell? ⟨gb112, 11, none⟩ = some (.int .i64 x113011_1) := (blk_cell BK112.out 11).trans rfl
       have hcz78_12 : wr.cell? ⟨gb112, 12, none⟩ = some (.int .i64 x113012_1) := (blk_cell BK112.out 12).trans rfl
       have hcz78_13 : wr.cell? ⟨gb112, 13, none⟩ = some (.int .i64 x113013_1) := (blk_cell BK112.out 13).trans rfl
       have hcz78_14 : wr.cell? ⟨gb112, 14, none⟩ = some (.int .i64 x113014_1) := (blk_cell BK112.out 14).trans rfl
       have hcz78_15 : wr.cell? ⟨gb112, 15, none⟩ = some (.int .i64 x113015_1) := (blk_cell BK112.out 15).trans rfl
       have hfz78_0 := blk_frozen BK112.out 0
       have hfz78_1 := blk_frozen BK112.out 1
       have hfz78_2 := blk_frozen BK112.out 2
       have hfz78_3 := blk_frozen BK112.out 3
       have hfz78_4 := blk_frozen BK112.out 4
       have hfz78_5 := blk_frozen BK112.out 5
       have hfz78_6 := blk_frozen BK112.out 6
       have hfz78_7 := blk_frozen BK112.out 7
       have hfz78_8 := blk_frozen BK112.out 8
       have hfz78_9 := blk_frozen BK112.out 9
       have hfz78_10 := blk_frozen BK112.out 10
       have hfz78_11 := blk_frozen BK112.out 11
       have hfz78_12 := blk_frozen BK112.out 12
       have hfz78_13 := blk_frozen BK112.out 13
       have hfz78_14 := blk_frozen BK112.out 14
       have hfz78_15 := blk_frozen BK112.out 15
       have hnb79 := NB106_111.out
       have hnc79 := NB111_106.out
       have hcz80_0 : wr.cell? ⟨gb106, 0, none⟩ = some (.int .i64 0) := (blk_cell BK106.out 0).trans rfl
       have hcz80_1 : wr.cell? ⟨gb106, 1, none⟩ = some (.int .i64 0) := (blk_cell BK106.out 1).trans rfl
       have hcz80_2 : wr.cell? ⟨gb106, 2, none⟩ = some (.int .i64 0) := (blk_cell BK106.out 2).trans rfl
       have hcz80_3 : wr.cell? ⟨gb106, 3, none⟩ = some (.int .i64 0) := (blk_cell BK106.out 3).trans rfl
       have hcz80_4 : wr.cell? ⟨gb106, 4, none⟩ = some (.int .i64 0) := (blk_cell BK106.out 4).trans rfl
       have hcz80_5 : wr.cell? ⟨gb106, 5, none⟩ = some (.int .i64 0) := (blk_cell BK106.out 5).trans rfl
       have hcz80_6 : wr.cell? ⟨gb106, 6, none⟩ = some (.int .i64 0) := (blk_cell BK106.out 6).trans rfl
       have hcz80_7 : wr.cell? ⟨gb106, 7, none⟩ = some (.int .i64 0) := (blk_cell BK106.out 7).trans rfl
       have hcz80_8 : wr.cell? ⟨gb106, 8, none⟩ = some (.int .i64 0) := (blk_cell BK106.out 8).trans rfl
       have hcz80_9 : wr.cell? ⟨gb106, 9, none⟩ = some (.int .i64 0) := (blk_cell BK106.out 9).trans rfl
       have hcz80_10 : wr.cell? ⟨gb106, 10, none⟩ = some (.int .i64 0) := (blk_cell BK106.out 10).trans rfl
       have hcz80_11 : wr.cell? ⟨gb106, 11, none⟩ = some (.int .i64 0) := (blk_cell BK106.out 11).trans rfl
       have hcz80_12 : wr.cell? ⟨gb106, 12, none⟩ = some (.int .i64 0) := (blk_cell BK106.out 12).trans rfl
       have hcz80_13 : wr.cell? ⟨gb106, 13, none⟩ = some (.int .i64 0) := (blk_cell BK106.out 13).trans rfl
       have hcz80_14 : wr.cell? ⟨gb106, 14, none⟩ = some (.int .i64 0) := (blk_cell BK106.out 14).trans rfl
       have hcz80_15 : wr.cell? ⟨gb106, 15, none⟩ = some (.int .i64 0) := (blk_cell BK106.out 15).trans rfl
       have hfz80_0 := blk_frozen BK106.out 0
       have hfz80_1 := blk_frozen BK106.out 1
       have hfz80_2 := blk_frozen BK106.out 2
       have hfz80_3 := blk_frozen BK106.out 3
       have hfz80_4 := blk_frozen BK106.out 4
       have hfz80_5 := blk_frozen BK106.out 5
       have hfz80_6 := blk_frozen BK106.out 6
       have hfz80_7 := blk_frozen BK106.out 7
       have hfz80_8 := blk_frozen BK106.out 8
       have hfz80_9 := blk_frozen BK106.out 9
       have hfz80_10 := blk_frozen BK106.out 10
       have hfz80_11 := blk_frozen BK106.out 11
       have hfz80_12 := blk_frozen BK106.out 12
       have hfz80_13 := blk_frozen BK106.out 13
       have hfz80_14 := blk_frozen BK106.out 14
       have hfz80_15 := blk_frozen BK106.out 15
       go_wp2
       refine bodyPost_ret (results_cell_row rfl _ _ gb106 31 #[.int .i64 x113000_1, .int .i64 x113001_1, .int .i64 x113002_1, .int .i64 x113003_1, .int .i64 x113004_1, .int .i64 x113005_1, .int .i64 x113006_1, .int .i64 x113007_1, .int .i64 x113008_1, .int .i64 x113009_1, .int .i64 x113010_1, .int .i64 x113011_1, .int .i64 x113012_1, .int .i64 x113013_1, .int .i64 x113014_1, .int .i64 x113015_1] (0, 0) _ rfl (by (with_reducible repeat (first | refine blk_drewN ?_ _ | refine blk_drew ?_ | refine blk_alloc ?_ _)); refine blk_put (cs := #[.int .i64 x113000_1, .int .i64 x113001_1, .int .i64 x113002_1, .int .i64 x113003_1, .int .i64 x113004_1, .int .i64 x113005_1, .int .i64 x113006_1, .int .i64 x113007_1, .int .i64 x113008_1, .int .i64 x113009_1, .int .i64 x113010_1, .int .i64 x113011_1, .int .i64 x113012_1, .int .i64 x113013_1, .int .i64 x113014_1, .int .i64 0]) ?_ 15 _ rfl; (with_reducible repeat (first | refine blk_drewN ?_ _ | refine blk_drew ?_ | refine blk_alloc ?_ _)); refine blk_put (cs := #[.int .i64 x113000_1, .int .i64 x113001_1, .int .i64 x113002_1, .int .i64 x113003_1, .int .i64 x113004_1, .int .i64 x113005_1, .int .i64 x113006_1, .int .i64 x113007_1, .int .i64 x113008_1, .int .i64 x113009_1, .int .i64 x113010_1, .int .i64 x113011_1, .int .i64 x113012_1, .int .i64 x113013_1, .int .i64 0, .int .i64 0]) ?_ 14 _ rfl; (with_reducible repeat (first | refine blk_drewN ?_ _ | refine blk_drew ?_ | refine blk_alloc ?_ _)); refine blk_put (cs := #[.int .i64 x113000_1, .int .i64 x113001_1, .int .i64 x113002_1, .int .i64 x113003_1, .int .i64 x113004_1, .int .i64 x113005_1, .int .i64 x113006_1, .int .i64 x113007_1, .int .i64 x113008_1, .int .i64 x113009_1, .int .i64 x113010_1, .int .i64 x113011_1, .int .i64 x113012_1, .int .i64 0, .int .i64 0, .int .i64 0]) ?_ 13 _ rfl; (with_reducible repeat (first | refine blk_drewN ?_ _ | refine blk_drew ?_ | refine blk_alloc ?_ _)); refine blk_put (cs := #[.int .i64 x113000_1, .int .i64 x113001_1, .int .i64 x113002_1, .int .i64 x113003_1, .int .i64 x113004_1, .int .i64 x113005_1, .int .i64 x113006_1, .int .i64 x113007_1, .int .i64 x113008_1, .int .i64 x113009_1, .int .i64 x113010_1, .int .i64 x113011_1, .int .i64 0, .int .i64 0, .int .i64 0, .int .i64 0]) ?_ 12 _ rfl; (with_reducible repeat (first | refine blk_drewN ?_ _ | refine blk_drew ?_ | refine blk_alloc ?_ _)); refine blk_put (cs := #[.int .i64 x113000_1, .int .i64 x113001_1, .int .i64 x113002_1, .int .i64 x113003_1, .int .i64 x113004_1, .int .i64 x113005_1, .int .i64 x113006_1, .int .i64 x113007_1, .int .i64 x113008_1, .int .i64 x113009_1, .int .i64 x113010_1, .int .i64 0, .int .i64 0, .int .i64 0, .int .i64 0, .int .i64 0]) ?_ 11 _ rfl; (with_reducible repeat (first | refine blk_drewN ?_ _ | refine blk_drew ?_ | refine blk_alloc ?_ _)); refine blk_put (cs := #[.int .i64 x113000_1, .int .i64 x113001_1, .int .i64 x113002_1, .int .i64 x113003_1, .int .i64 x113004_1, .int .i64 x113005_1, .int .i64 x113006_1, .int .i64 x113007_1, .int .i64 x113008_1, .int .i64 x113009_1, .int .i64 0, .int .i64 0, .int .i64 0, .int .i64 0, .int .i64 0, .int .i64 0]) ?_ 10 _ rfl; (with_reducible repeat (first | refine blk_drewN ?_ _ | refine blk_drew ?_ | refine blk_alloc ?_ _)); refine blk_put (cs := #[.int .i64 x113000_1, .int .i64 x113001_1, .int .i64 x113002_1, .int .i64 x113003_1, .int .i64 x113004_1, .int .i64 x113005_1, .int .i64 x113006_1, .int .i64 x113007_1, .int .i64 x113008_1, .int .i64 0, .int .i64 0, .int .i64 0, .int .i64 0, .int .i64 0, .int .i64 0, .int .i64 0]) ?_ 9 _ rfl; (with_reducible repeat (first | refine blk_drewN ?_ _ | refine blk_drew ?_ | refine blk_alloc ?_ _)); refine blk_put (cs := #[.int .i64 x113000_1, .int .i64 x113001_1, .int .i64 x113002_1, .int .i64 x113003_1, .int .i64 x113004_1, .int .i64 x113005_1, .int .i64 x113006_1, .int .i64 x113007_1, .int .i64 0, .int .i64 0, .int .i64 0, .int .i64 0, .int .i64 0, .int .i64 0, .int .i64 0, .int .i64 0]) ?_ 8 _ rfl; (with_reducible repeat (first | refine blk_drewN ?_ _ | refine blk_drew ?_ | refine blk_alloc ?_ _)); refine blk_put (cs := #[.int .i64 x113000_1, .int .i64 x113001_1, .int .i64 x113002_1, .int .i64 x113003_1, .int .i64 x113004_1, .int .i64 x113005_1, .int .i64 x113006_1, .int .i64 0, .int .i64 0, .int .i64 0, .int .i64 0, .int .i64 0, .int .i64 0, .int .i64 0, .int .i64 0, .int .i64 0]) ?_ 7 _ rfl; (with_reducible repeat (first | refine blk_drewN ?_ _ | refine blk_drew ?_ | refine blk_alloc ?_ _)); refine blk_put (cs := #[.int .i64 x113000_1, .int .i64 x113001_1, .int .i64 x113002_1, .int .i64 x113003_1, .int .i64 x113004_1, .int .i64 x113005_1, .int .i64 0, .int .i64 0, .int .i64 0, .int .i64 0, .int .i64 0, .int .i64 0, .int .i64 0, .int .i64 0, .int .i64 0, .int .i64 0]) ?_ 6 _ rfl; (with_reducible repeat (first | refine blk_drewN ?_ _ | refine blk_drew ?_ | refine blk_alloc ?_ _)); refine blk_put (cs := #[.int .i64 x113000_1, .int .i64 x113001_1, .int .i64 x113002_1, .int .i64 x113003_1, .int .i64 x113004_1, .int .i64 0, .int .i64 0, .int .i64 0, .int .i64 0, .int .i64 0, .int .i64 0, .int .i64 0, .int .i64 0, .int .i64 0, .int .i64 0, .int .i64 0]) ?_ 5 _ rfl; (with_reducible repeat (first | refine blk_drewN ?_ _ | refine blk_drew ?_ | refine blk_alloc ?_ _)); refine blk_put (cs := #[.int .i64 x113000_1, .int .i64 x113001_1, .int .i64 x113002_1, .int .i64 x113003_1, .int .i64 0, .int .i64 0, .int .i64 0, .int .i64 0, .int .i64 0, .int .i64 0, .int .i64 0, .int .i64 0, .int .i64 0, .int .i64 0, .int .i64 0, .int .i64 0]) ?_ 4 _ rfl; (with_reducible repeat (first | refine blk_drewN ?_ _ | refine blk_drew ?_ | refine blk_alloc ?_ _)); refine blk_put (cs := #[.int .i64 x113000_1, .int .i64 x113001_1, .int .i64 x113002_1, .int .i64 0, .int .i64 0, .int .i64 0, .int .i64 0, .int .i64 0, .int .i64 0, .int .i64 0, .int .i64 0, .int .i64 0, .int .i64 0, .int .i64 0, .int .i64 0, .int .i64 0]) ?_ 3 _ rfl; (with_reducible repeat (first | refine blk_drewN ?_ _ | refine blk_drew ?_ | refine blk_alloc ?_ _)); refine blk_put (cs := #[.int .i64 x113000_1, .int .i64 x113001_1, .int .i64 0, .int .i64 0, .int .i64 0, .int .i64 0, .int .i64 0, .int .i64 0, .int .i64 0, .int .i64 0, .int .i64 0, .int .i64 0, .int .i64 0, .int .i64 0, .int .i64 0, .int .i64 0]) ?_ 2 _ rfl; (with_reducible repeat (first | refine blk_drewN ?_ _ | refine blk_drew ?_ | refine blk_alloc ?_ _)); refine blk_put (cs := #[.int .i64 x113000_1, .int .i64 0, .int .i64 0, .int .i64 0, .int .i64 0, .int .i64 0, .int .i64 0, .int .i64 0, .int .i64 0, .int .i64 0, .int .i64 0, .int .i64 0, .int .i64 0, .int .i64 0, .int .i64 0, .int .i64 0]) ?_ 1 _ rfl; (with_reducible repeat (first | refine blk_drewN ?_ _ | refine blk_drew ?_ | refine blk_alloc ?_ _)); refine blk_put (cs := #[.int .i64 0, .int .i64 0, .int .i64 0, .int .i64 0, .int .i64 0, .int .i64 0, .int .i64 0, .int .i64 0, .int .i64 0, .int .i64 0, .int .i64 0, .int .i64 0, .int .i64 0, .int .i64 0, .int .i64 0, .int .i64 0]) ?_ 0 _ rfl; (with_reducible repeat (first | refine blk_drewN ?_ _ | refine blk_drew ?_ | refine blk_alloc ?_ _)); exact BK106.out) Tryd.underlying31 rfl (by kernel_rfl)) rfl ?_
       exact ⟨by first | rfl | (simp [errW_none, errW_some] <;> rfl) | (simp only [← hji2]; first | rfl | (simp [errW_none, errW_some] <;> rfl)) | (simp [*, errW_none, errW_some] <;> rfl), by repeat (first | (with_reducible first | exact HB.out | apply below_alloc | apply pw_below_drewN | apply below_drew1 | refine below_set ?_ GE106.out | refine below_set ?_ GE111.out | refine below_set ?_ GE112.out) | exact HB.out)⟩
   ·rw [if_neg c4] at H
    exact absurd H (by simp)
  ·rw [if_neg c3] at H
   exact absurd H (by simp)

end Go.Proofs.YtjheabcffkbfkaaDoor.X
