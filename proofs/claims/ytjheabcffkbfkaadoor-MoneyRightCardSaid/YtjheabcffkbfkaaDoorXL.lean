/- The walk of guichetlaw16.MoneyRight: whatever the program and the document tell alike, the law answers true. -/
import Derived.Test.YtjheabcffkbfkaaDoorX7
import Derived.Test.YtjheabcffkbfkaaDoorX6
import Derived.Test.YtjheabcffkbfkaaDoorXR
import Derived.Test.YtjheabcffkbfkaaDoorXO
namespace Go.Proofs.YtjheabcffkbfkaaDoor.X
open Go.RowKit Go.Proofs.YtjheabcffkbfkaaDoorW.PrintWords Go.Proofs.YtjheabcffkbfkaaDoorW.PrintLast Go.Proofs.YtjheabcffkbfkaaDoorW.PrintMore
set_option linter.unusedVariables false
set_option linter.unusedSimpArgs false

set_option maxHeartbeats 8000000 in
set_option maxRecDepth 100000 in
theorem law_walk (P0 : Option Addr) (c0_0 : Nat) (t0 : List (S31)) (P1 : Option Addr) (c0_1 : Nat) (t1 : List ByteArray) (P2 : Option Addr) (c0_2 : Nat) (t2 : List Int) (m : Int) (a4 : Int) (tm kk wh v am : Int) (w : World)
    (hr0_0 : Kd.C k31 w P0 t0.length t0) (hc0_0 : t0.length ≤ c0_0) (hr0_1 : Kd.C Kd.string w P1 t1.length t1) (hc0_1 : t1.length ≤ c0_1) (hr0_2 : Kd.C (Kd.int .i64) w P2 t2.length t2) (hc0_2 : t2.length ≤ c0_2) (hT : TabH w)
    (hk : 0 ≤ kk ∧ kk < 256) (hw : 0 ≤ wh ∧ wh < 256)
    (hknown : ∃ K, guichetlaw16_known.f K = some true)
    (hbank : ∃ K b0 b1 b2 lo hi, guichetseat_Bank.f K tm kk = some (b0, b1, b2, lo, hi) ∧ 0 < b0.length ∧ b0.length ≤ 3 ∧ b1.length = 4 ∧ b2.length = 4)
    (hcfg : ∀ l0 l1 l2 lo hi, l0.length ≤ 20 → l1.length ≤ 70 → l2.length ≤ 70 → ∃ K b, money_Right.f K l0 l1 l2 lo hi = some b ∧ CfR.f K l0 l1 l2 lo hi = some b) :
    Calls Tryd.prog 3 #[.agg #[.slice P0 t0.length c0_0, .slice P1 t1.length c0_1, .slice P2 t2.length c0_2, .int .i64 m, .int .i64 a4], .int .u8 tm, .int .u8 kk, .int .u8 wh, .int .i64 v, .int .i64 am] w fun e w' => e = .returned (.bool true) ∧ Below w.heap.size w w' := by
  have hu26 := Tryd.underlying26
  have hu30 := Tryd.underlying30
  have hu31 := Tryd.underlying31
  have HR0_0 := Aside0.mk hr0_0
  have HC0_0 := Aside0.mk hc0_0
  clear hr0_0 hc0_0
  have HR0_1 := Aside0.mk hr0_1
  have HC0_1 := Aside0.mk hc0_1
  clear hr0_1 hc0_1
  have HR0_2 := Aside0.mk hr0_2
  have HC0_2 := Aside0.mk hc0_2
  clear hr0_2 hc0_2
  have HB := Aside0.mk (Below.refl w.heap.size w)
  have HT := Aside0.mk hT
  have HCFG := Aside0.mk hcfg
  have HBANK := Aside0.mk hbank
  have HK := Aside0.mk hk
  have HW := Aside0.mk hw
  obtain ⟨K1, hkn⟩ := hknown
  have HKN := Aside0.mk hkn
  clear hT hcfg hbank hk hw hkn
  go_enter Tryd.func3, Tryd.ntmps3
  go_upto_region 3 with (first | ((with_reducible refine gate_dst (N := 6) rfl ?_); (try (refine gate_guard (by rfl) ?_; dsimp only)); refine box_event ?hg (N := 6) ?hd (cs := #[.slice P0 t0.length c0_0, .slice P1 t1.length c0_1, .slice P2 t2.length c0_2, .int .i64 m, .int .i64 a4]) (t := 26) ?hr ?_; (case hd => rfl); (case hg => rfl); (case hr => first | (go_simp; done) | (go_simp; rfl)); intro g hg w3 hbox hb; have n0_ := Aside0.mk (below_step (by exact HB.out) hb); have n1_ := Aside0.mk (hbox); have n2_ := Aside0.mk ((by rw [hg]; exact Nat.le_refl _) : w.heap.size ≤ g); clear HB; have HB := n0_; have K := n1_; have E := n2_; clear n0_ n1_ n2_; clear hb hbox hg) | (go_at_call 5; (with_reducible refine (guichetlaw16_known.calls K1 true _ (TabH.below HT.out HB.out) HKN.out).mono ?_); rintro e w4 ⟨rfl, hb⟩; have n0_ := Aside0.mk (below_step HB.out hb); have n1_ := Aside0.mk (blk_below (g := g) (o := .cells #[.slice P0 t0.length c0_0, .slice P1 t1.length c0_1, .slice P2 t2.length c0_2, .int .i64 m, .int .i64 a4] 26 (0, 0)) K.out hb); clear HB K hb; have HB := n0_; have K := n1_; clear n0_ n1_))
  have hcz0 : _ = some (Value.slice P0 t0.length c0_0) := (blk_cell K.out 0).trans rfl
  have hcz1 : _ = some (Value.slice P1 t1.length c0_1) := (blk_cell K.out 1).trans rfl
  have hcz2 : _ = some (Value.slice P2 t2.length c0_2) := (blk_cell K.out 2).trans rfl
  by_cases c1 : 10 < t0.length
  · have c1a : decide (10 < (t0.length : Int)) = true := decide_eq_true (by omega)
    have c1b : decide (10 < t0.length) = true := decide_eq_true c1
    clear c1
    go_wp2
    go_ret
    exact ⟨rfl, HB.out⟩
  have c1a : decide (10 < (t0.length : Int)) = false := decide_eq_false (by omega)
  have c1b : decide (10 < t0.length) = false := decide_eq_false c1
  by_cases c2 : 70 < t1.length
  · have c2a : decide (70 < (t1.length : Int)) = true := decide_eq_true (by omega)
    have c2b : decide (70 < t1.length) = true := decide_eq_true c2
    clear c1 c2
    go_wp2
    go_ret
    exact ⟨rfl, HB.out⟩
  have c2a : decide (70 < (t1.length : Int)) = false := decide_eq_false (by omega)
  have c2b : decide (70 < t1.length) = false := decide_eq_false c2
  by_cases c3 : 70 < t2.length
  · have c3a : decide (70 < (t2.length : Int)) = true := decide_eq_true (by omega)
    have c3b : decide (70 < t2.length) = true := decide_eq_true c3
    clear c1 c2 c3
    go_wp2
    go_ret
    exact ⟨rfl, HB.out⟩
  have c3a : decide (70 < (t2.length : Int)) = false := decide_eq_false (by omega)
  have c3b : decide (70 < t2.length) = false := decide_eq_false c3
  have HL := Aside0.mk (⟨Nat.le_of_not_lt c1, Nat.le_of_not_lt c2, Nat.le_of_not_lt c3⟩ : t0.length ≤ 10 ∧ t1.length ≤ 70 ∧ t2.length ≤ 70)
  clear c1 c2 c3
  go_wp2
  go_loopg [13] t1.length (fun kq v13 w' => ∃ i : Nat, v13 = .int .i64 (i : Int) ∧ Aside0 (i ≤ t1.length ∧ kq = t1.length - i) ∧ Aside0 (w'.heap[g]? = some (.cells #[(.slice P0 t0.length c0_0), (.slice P1 t1.length c0_1), (.slice P2 t2.length c0_2), .int .i64 m, .int .i64 a4] 26 (0, 0))) ∧ Aside0 (Below w.heap.size w w'))
  case atStart => exact ⟨0, rfl, ⟨by omega⟩, K, HB⟩
  case round =>
    clear K HB hcz0 hcz1 hcz2 c1a c1b c2a c2b c3a c3b
    obtain ⟨i, rfl, HI, K, HB⟩ := hrel
    have hcz1 : _ = some (Value.slice P1 t1.length c0_1) := (blk_cell K.out 1).trans rfl
    have hi70 : i ≤ 70 := by have := HI.out; have := HL.out; omega
    by_cases c4 : i < t1.length
    · have c4a : decide ((i : Int) < (t1.length : Int)) = true := decide_eq_true (by omega)
      have c4b : decide (i < t1.length) = true := decide_eq_true c4
      obtain ⟨ad, e1, x0⟩ := Kd.at_string HR0_1.out (i : Int) (by omega) (by omega)
      subst e1
      simp only [Int.toNat_natCast] at x0
      replace x0 := (HB.out.cell (World.block_lt_of_cell? w _ x0)).trans x0
      generalize rdOf ByteArray.empty t1 (i : Int) = p at x0
      by_cases c5 : 60 < p.size
      · have c5a : decide (60 < (p.size : Int)) = true := decide_eq_true (by omega)
        have c5b : decide (60 < p.size) = true := decide_eq_true c5
        go_wp2
        go_ret
        exact ⟨rfl, HB.out⟩
      · have c5a : decide (60 < (p.size : Int)) = false := decide_eq_false (by omega)
        have c5b : decide (60 < p.size) = false := decide_eq_false c5
        go_wp2
        go_roundg (t1.length - (i + 1))
        case measure => have := HI.out; omega
        case rel => exact ⟨i + 1, by first | rfl | (congr 1; unfold wrap64; omega), ⟨by omega⟩, K, HB⟩
    · have c4a : decide ((i : Int) < (t1.length : Int)) = false := decide_eq_false (by omega)
      have c4b : decide (i < t1.length) = false := decide_eq_false c4
      clear c4 HI hi70
      go_upto_region 10 with (fail)
      obtain ⟨K2, b0, b1, b2, lo, hi, hbk, hl0, hl0', hl1, hl2⟩ := HBANK.out
      have HBK := Aside0.mk hbk
      have HLB := Aside0.mk (And.intro hl0 (And.intro hl0' (And.intro hl1 hl2)))
      clear hbk hl0 hl0' hl1 hl2
      go_upto_block 2 with (go_at_call 6; (with_reducible refine (guichetseat_Bank.calls K2 tm kk b0 b1 b2 lo hi _ HBK.out).mono ?_); rintro e w5 ⟨v0_, v1_, v2_, rfl, ho0, ho1, ho2, hb⟩; obtain ⟨A0, d0, rfl⟩ := Kd.R_slice ho0; obtain ⟨A1, d1, rfl⟩ := Kd.R_slice ho1; obtain ⟨A2, d2, rfl⟩ := Kd.R_slice ho2; have HO0 := Aside0.mk (Kd.R_lower ho0 HB.out.size); have HO1 := Aside0.mk (Kd.R_lower ho1 HB.out.size); have HO2 := Aside0.mk (Kd.R_lower ho2 HB.out.size); have n0_ := Aside0.mk (below_step HB.out hb); have n1_ := Aside0.mk (blk_below (g := g) (o := .cells #[.slice P0 t0.length c0_0, .slice P1 t1.length c0_1, .slice P2 t2.length c0_2, .int .i64 m, .int .i64 a4] 26 (0, 0)) K.out hb); clear HB K hb ho0 ho1 ho2; have HB := n0_; have K := n1_; clear n0_ n1_)
      have hgc : g < w5.heap.size := (Array.getElem?_eq_some_iff.1 K.out).1
      have KC := Aside0.mk (blk_new w5 (.cells #[.slice A0 b0.length d0, .slice A1 b1.length d1, .slice A2 b2.length d2, .int .i64 lo, .int .i64 hi] 26 (0, 0)))
      have n0_ := Aside0.mk (blk_alloc K.out (.cells #[.slice A0 b0.length d0, .slice A1 b1.length d1, .slice A2 b2.length d2, .int .i64 lo, .int .i64 hi] 26 (0, 0)))
      have n1_ := Aside0.mk (below_alloc HB.out (.cells #[.slice A0 b0.length d0, .slice A1 b1.length d1, .slice A2 b2.length d2, .int .i64 lo, .int .i64 hi] 26 (0, 0)))
      have n2_ := Aside0.mk (Kd.R_alloc HO0.out (.cells #[.slice A0 b0.length d0, .slice A1 b1.length d1, .slice A2 b2.length d2, .int .i64 lo, .int .i64 hi] 26 (0, 0)))
      have n3_ := Aside0.mk (Kd.R_alloc HO1.out (.cells #[.slice A0 b0.length d0, .slice A1 b1.length d1, .slice A2 b2.length d2, .int .i64 lo, .int .i64 hi] 26 (0, 0)))
      have n4_ := Aside0.mk (Kd.R_alloc HO2.out (.cells #[.slice A0 b0.length d0, .slice A1 b1.length d1, .slice A2 b2.length d2, .int .i64 lo, .int .i64 hi] 26 (0, 0)))
      have hgw : w.heap.size ≤ w5.heap.size := HB.out.size
      clear HB K HO0 HO1 HO2
      have K := n0_
      have HB := n1_
      have HO0 := n2_
      have HO1 := n3_
      have HO2 := n4_
      clear n0_ n1_ n2_ n3_ n4_
      generalize w5.alloc (.cells #[.slice A0 b0.length d0, .slice A1 b1.length d1, .slice A2 b2.length d2, .int .i64 lo, .int .i64 hi] 26 (0, 0)) = w6 at KC K HB HO0 HO1 HO2 ⊢
      generalize w5.heap.size = gc at KC hgc hgw ⊢
      have hng : g ≠ gc := Nat.ne_of_lt hgc
      clear c4a c4b hcz1
      have HOW := Aside0.mk (show Own w #[.slice P0 t0.length c0_0, .slice P1 t1.length c0_1, .slice P2 t2.length c0_2, .int .i64 m, .int .i64 a4] g gc (.slice A0 b0.length d0) (.slice A1 b1.length d1) (.slice A2 b2.length d2) b0 b1 b2 lo hi w6 from ⟨KC.out, hgw, hng, K.out, HB.out, HO0.out, HO1.out, HO2.out⟩)
      clear KC HO0 HO1 HO2 K HB
      generalize wh.tmod 12 = q
      go_cut [] (fun wx => Rel w #[.slice P0 t0.length c0_0, .slice P1 t1.length c0_1, .slice P2 t2.length c0_2, .int .i64 m, .int .i64 a4] g gc wx)
      case first =>
        obtain ⟨ad0, dd0, ev0, hd0, hwa0, hla0, cells0, hb0, hcl0⟩ := HOW.out.row0 HLB.out.1
        injection ev0 with ev0 _ ev0'
        subst ev0 ev0'
        obtain ⟨ad1, dd1, ev1, hd1, hwa1, hcl1⟩ := HOW.out.row1 (by have := HLB.out; omega)
        injection ev1 with ev1 _ ev1'
        subst ev1 ev1'
        obtain ⟨ad2, dd2, ev2, hd2, hwa2, hcl2⟩ := HOW.out.row2 (by have := HLB.out; omega)
        injection ev2 with ev2 _ ev2'
        subst ev2 ev2'
        have HCL := Aside0.mk hcl0
        have HB0 := Aside0.mk hb0
        have HCL1 := Aside0.mk hcl1
        have HCL2 := Aside0.mk hcl2
        have HD := Aside0.mk (And.intro hd0 (And.intro hd1 hd2))
        clear hcl0 hb0 hcl1 hcl2 hd0 hd1 hd2
        have hcy0 : _ = some (Value.slice (some ⟨ad0, 0, none⟩) b0.length d0) := (blk_cell HOW.out.1 0).trans rfl
        have hcy1 : _ = some (Value.slice (some ⟨ad1, 0, none⟩) b1.length d1) := (blk_cell HOW.out.1 1).trans rfl
        have hcy2 : _ = some (Value.slice (some ⟨ad2, 0, none⟩) b2.length d2) := (blk_cell HOW.out.1 2).trans rfl
        have hcy3 : _ = some (Value.int .i64 lo) := (blk_cell HOW.out.1 3).trans rfl
        have hcy4 : _ = some (Value.int .i64 hi) := (blk_cell HOW.out.1 4).trans rfl
        have hfz0 := blk_frozen HOW.out.1 0
        have hfz2 := blk_frozen HOW.out.1 2
        have hfz3 := blk_frozen HOW.out.1 3
        have hfz4 := blk_frozen HOW.out.1 4
        have hp0 : 0 < b0.length := HLB.out.1
        have hp0' : (0 : Int) < (b0.length : Int) := by omega
        obtain ⟨r, hr, e4⟩ := tmod_nat kk HK.out.1 4 (by decide)
        have hr1 : r < b1.length := by have := HLB.out; omega
        have hr2 : r < b2.length := by have := HLB.out; omega
        have e4 : kk.tmod 4 = (r : Int) := e4
        by_cases c20 : q = 0
        · subst c20
          go_wp2
          go_meet
          (case rel => exact (HOW.out.setLo v).rel (by have := HLB.out; omega) (by have := HLB.out; omega) (by have := HLB.out; omega))
        have d20 : (q == 0) = false := beq_eq_false_iff_ne.2 c20
        clear c20
        by_cases c21 : q = 1
        · subst c21
          go_wp2
          go_meet
          (case rel => exact (HOW.out.setHi v).rel (by have := HLB.out; omega) (by have := HLB.out; omega) (by have := HLB.out; omega))
        have d21 : (q == 1) = false := beq_eq_false_iff_ne.2 c21
        clear c21
        by_cases c22 : q = 2
        · subst c22
          obtain ⟨z, hz⟩ := cells31_at (rd_T31 b0 0) (r * 4) (by omega)
          have x0 := HCL.out _ _ hz
          have x1 := blk_frozen HB0.out (r * 4)
          clear hz
          go_wp2
          go_meet
          (case rel => exact HOW.out.cassRel rfl hp0 (by omega) _ (by have := HLB.out; omega) (by have := HLB.out; omega) (by have := HLB.out; omega))
        have d22 : (q == 2) = false := beq_eq_false_iff_ne.2 c22
        clear c22
        by_cases c23 : q = 3
        · subst c23
          obtain ⟨z, hz⟩ := cells31_at (rd_T31 b0 0) (r * 4 + 1) (by omega)
          have x0 := HCL.out _ _ hz
          have x1 := blk_frozen HB0.out (r * 4 + 1)
          clear hz
          go_wp2
          go_meet
          (case rel => exact HOW.out.cassRel rfl hp0 (by omega) _ (by have := HLB.out; omega) (by have := HLB.out; omega) (by have := HLB.out; omega))
        have d23 : (q == 3) = false := beq_eq_false_iff_ne.2 c23
        clear c23
        by_cases c24 : q = 4
        · subst c24
          obtain ⟨z, hz⟩ := cells31_at (rd_T31 b0 0) (r * 4 + 2) (by omega)
          have x0 := HCL.out _ _ hz
          have x1 := blk_frozen HB0.out (r * 4 + 2)
          clear hz
          go_wp2
          go_meet
          (case rel => exact HOW.out.cassRel rfl hp0 (by omega) _ (by have := HLB.out; omega) (by have := HLB.out; omega) (by have := HLB.out; omega))
        have d24 : (q == 4) = false := beq_eq_false_iff_ne.2 c24
        clear c24
        by_cases c25 : q = 5
        · subst c25
          obtain ⟨z, hz⟩ := cells31_at (rd_T31 b0 0) (r * 4 + 3) (by omega)
          have x0 := HCL.out _ _ hz
          have x1 := blk_frozen HB0.out (r * 4 + 3)
          clear hz
          go_wp2
          go_meet
          (case rel => exact HOW.out.cassRel rfl hp0 (by omega) _ (by have := HLB.out; omega) (by have := HLB.out; omega) (by have := HLB.out; omega))
        have d25 : (q == 5) = false := beq_eq_false_iff_ne.2 c25
        clear c25
        by_cases c26 : q = 6
        · subst c26
          have x0 := (HCL1.out (r : Int) (by omega) (by omega)).1
          have y0 := (HCL1.out 0 (by omega) (by omega)).1
          have y1 := (HCL1.out 0 (by omega) (by omega)).2
          simp only [Int.toNat_natCast, Int.toNat_zero] at x0 y0 y1
          go_wp2
          go_region
          all_goals (go_wp2; go_meet; (case rel => first | exact (HOW.out.panRel rfl _ (by have := HLB.out; omega) (by have := HLB.out; omega) (by have := HLB.out; omega)).drewN 1 | exact HOW.out.drew.panRel rfl _ (by have := HLB.out; omega) (by have := HLB.out; omega) (by have := HLB.out; omega)))
        have d26 : (q == 6) = false := beq_eq_false_iff_ne.2 c26
        clear c26
        by_cases c27 : q = 7
        · subst c27
          have x0 := (HCL1.out (r : Int) (by omega) (by omega)).1
          have x1 := (HCL1.out (r : Int) (by omega) (by omega)).2
          simp only [Int.toNat_natCast] at x0 x1
          go_wp2
          go_meet
          (case rel => exact HOW.out.panRel rfl _ (by have := HLB.out; omega) (by have := HLB.out; omega) (by have := HLB.out; omega))
        have d27 : (q == 7) = false := beq_eq_false_iff_ne.2 c27
        clear c27
        by_cases c28 : q = 8
        · subst c28
          have x0 := (HCL2.out (r : Int) (by omega) (by omega)).1
          have x1 := (HCL2.out (r : Int) (by omega) (by omega)).2
          simp only [Int.toNat_natCast] at x0 x1
          go_wp2
          go_meet
          (case rel => exact HOW.out.fundRel rfl _ (by have := HLB.out; omega) (by have := HLB.out; omega) (by have := HLB.out; omega))
        have d28 : (q == 8) = false := beq_eq_false_iff_ne.2 c28
        clear c28
        by_cases c29 : q = 9
        · subst c29
          have hd2 : ¬ d2 = 1 := by have := HD.out; have := HLB.out; omega
          go_wp2
          go_meet
          (case rel => exact HOW.out.tail (by have := HLB.out; omega) (by have := HLB.out; omega) (by have := HLB.out; omega) rfl (by have := HLB.out; omega) (by rw [if_neg hd2]; rfl) rfl rfl)
        have d29 : (q == 9) = false := beq_eq_false_iff_ne.2 c29
        clear c29
        by_cases c30 : q = 10
        · subst c30
          obtain ⟨n10, hn10, e10⟩ := tmod_nat kk HK.out.1 10 (by decide)
          have e10 : kk.tmod 10 = (n10 : Int) := e10
          clear hcy0 hcy1 hcy2 hcy3 hcy4 hfz0 hfz2 hfz3 hfz4 e4 HCL HB0 HCL1 HCL2 HD
          go_wp2
          go_loopg [16] n10 (fun kq v16 w' => ∃ jj : Nat, v16 = .int .i64 (jj : Int) ∧ Aside0 (jj ≤ n10 ∧ kq = n10 - jj) ∧ Aside0 (∃ (v0 : Value) (l : List S31), (0 < l.length ∧ l.length ≤ 3 + jj) ∧ Own w #[.slice P0 t0.length c0_0, .slice P1 t1.length c0_1, .slice P2 t2.length c0_2, .int .i64 m, .int .i64 a4] g gc v0 (.slice (some ⟨ad1, 0, none⟩) b1.length d1) (.slice (some ⟨ad2, 0, none⟩) b2.length d2) l b1 b2 lo hi w'))
          case atStart => exact ⟨0, rfl, ⟨by omega⟩, ⟨_, _, ⟨hp0, HLB.out.2.1⟩, HOW.out⟩⟩
          case round =>
            obtain ⟨jj, rfl, HJJ, HOJ⟩ := hrel
            by_cases c40 : jj < n10
            · have c40a : decide ((jj : Int) < (n10 : Int)) = true := decide_eq_true (by omega)
              have c40b : decide (jj < n10) = true := decide_eq_true c40
              obtain ⟨v0, l, hl, hoj⟩ := HOJ.out
              obtain ⟨ad, dl, evj, hdj, hwaj, hlaj, cellsj, hbj, hclj⟩ := hoj.row0 hl.1
              subst evj
              have hlp := hl.1
              have HLL := Aside0.mk hl.2
              have HOJ1 := Aside0.mk hoj
              have HCLJ := Aside0.mk hclj
              clear hoj hbj hclj HOJ hl hdj
              go_upto_region 37 with (fail)
              have HW0 := Aside0.mk HOJ1.out.drew
              have z0 : wr.drew.cell? ⟨gc, 0, none⟩ = some (.slice (some ⟨ad, 0, none⟩) l.length dl) := (blk_cell HW0.out.1 0).trans rfl
              have y0 : wr.drew.cell? ⟨ad, 0, none⟩ = some (.int .i64 (rd_T31 l 0).f0.f0) := HCLJ.out 0 _ rfl
              have y1 : wr.drew.cell? ⟨ad, 1, none⟩ = some (.int .i64 (rd_T31 l 0).f0.f1) := HCLJ.out 1 _ rfl
              have y2 : wr.drew.cell? ⟨ad, 2, none⟩ = some (.int .i64 (rd_T31 l 0).f0.f2) := HCLJ.out 2 _ rfl
              have y3 : wr.drew.cell? ⟨ad, 3, none⟩ = some (.int .i64 (rd_T31 l 0).f0.f3) := HCLJ.out 3 _ rfl
              have y4 : wr.drew.cell? ⟨ad, 4, none⟩ = some (.int .i64 (rd_T31 l 0).f1.f0) := HCLJ.out 4 _ rfl
              have y5 : wr.drew.cell? ⟨ad, 5, none⟩ = some (.int .i64 (rd_T31 l 0).f1.f1) := HCLJ.out 5 _ rfl
              have y6 : wr.drew.cell? ⟨ad, 6, none⟩ = some (.int .i64 (rd_T31 l 0).f1.f2) := HCLJ.out 6 _ rfl
              have y7 : wr.drew.cell? ⟨ad, 7, none⟩ = some (.int .i64 (rd_T31 l 0).f1.f3) := HCLJ.out 7 _ rfl
              have y8 : wr.drew.cell? ⟨ad, 8, none⟩ = some (.int .i64 (rd_T31 l 0).f2.f0) := HCLJ.out 8 _ rfl
              have y9 : wr.drew.cell? ⟨ad, 9, none⟩ = some (.int .i64 (rd_T31 l 0).f2.f1) := HCLJ.out 9 _ rfl
              have y10 : wr.drew.cell? ⟨ad, 10, none⟩ = some (.int .i64 (rd_T31 l 0).f2.f2) := HCLJ.out 10 _ rfl
              have y11 : wr.drew.cell? ⟨ad, 11, none⟩ = some (.int .i64 (rd_T31 l 0).f2.f3) := HCLJ.out 11 _ rfl
              have y12 : wr.drew.cell? ⟨ad, 12, none⟩ = some (.int .i64 (rd_T31 l 0).f3.f0) := HCLJ.out 12 _ rfl
              have y13 : wr.drew.cell? ⟨ad, 13, none⟩ = some (.int .i64 (rd_T31 l 0).f3.f1) := HCLJ.out 13 _ rfl
              have y14 : wr.drew.cell? ⟨ad, 14, none⟩ = some (.int .i64 (rd_T31 l 0).f3.f2) := HCLJ.out 14 _ rfl
              have y15 : wr.drew.cell? ⟨ad, 15, none⟩ = some (.int .i64 (rd_T31 l 0).f3.f3) := HCLJ.out 15 _ rfl
              generalize rd_T31 l 0 = xx at y0 y1 y2 y3 y4 y5 y6 y7 y8 y9 y10 y11 y12 y13 y14 y15
              refine start_ (n := 10) (S := fun w' => w'.cell? ⟨gc, 0, none⟩ = some (.slice (some ⟨ad, 0, none⟩) l.length dl) ∧ w'.cell? ⟨ad, 0, none⟩ = some (.int .i64 xx.f0.f0) ∧ w'.cell? ⟨ad, 1, none⟩ = some (.int .i64 xx.f0.f1) ∧ w'.cell? ⟨ad, 2, none⟩ = some (.int .i64 xx.f0.f2) ∧ w'.cell? ⟨ad, 3, none⟩ = some (.int .i64 xx.f0.f3) ∧ w'.cell? ⟨ad, 4, none⟩ = some (.int .i64 xx.f1.f0) ∧ w'.cell? ⟨ad, 5, none⟩ = some (.int .i64 xx.f1.f1) ∧ w'.cell? ⟨ad, 6, none⟩ = some (.int .i64 xx.f1.f2) ∧ w'.cell? ⟨ad, 7, none⟩ = some (.int .i64 xx.f1.f3) ∧ w'.cell? ⟨ad, 8, none⟩ = some (.int .i64 xx.f2.f0) ∧ w'.cell? ⟨ad, 9, none⟩ = some (.int .i64 xx.f2.f1) ∧ w'.cell? ⟨ad, 10, none⟩ = some (.int .i64 xx.f2.f2) ∧ w'.cell? ⟨ad, 11, none⟩ = some (.int .i64 xx.f2.f3) ∧ w'.cell? ⟨ad, 12, none⟩ = some (.int .i64 xx.f3.f0) ∧ w'.cell? ⟨ad, 13, none⟩ = some (.int .i64 xx.f3.f1) ∧ w'.cell? ⟨ad, 14, none⟩ = some (.int .i64 xx.f3.f2) ∧ w'.cell? ⟨ad, 15, none⟩ = some (.int .i64 xx.f3.f3)) (ds := [7, 9]) #[false, false, false, false, false, false, false, false, false, false] (by kernel_rfl) rfl rfl ⟨z0, y0, y1, y2, y3, y4, y5, y6, y7, y8, y9, y10, y11, y12, y13, y14, y15⟩ (fun hHeld => ?_)
              generalize wr.drew = wq at HW0 z0 y0 y1 y2 y3 y4 y5 y6 y7 y8 y9 y10 y11 y12 y13 y14 y15 hHeld ⊢
              refine pure_ (i := 0) (N := some 150) (v := ?_) (a' := ?_) #[true, false, false, false, false, false, false, false, false, false] rfl rfl (by kernel_rfl) (fun _ _ _ h => h) (Or.inl ⟨by rfl, ?_⟩) ?_ ?_
              rotate_left
              · intro w'
                go_simp
                with_reducible rfl
              rotate_left
              · simp only [Act.put, List.setIfInBounds_toArray, List.set_cons_zero, List.set_cons_succ, i64_w, i32_w]
                rfl
              refine pure_ (i := 2) (N := some 152) (v := ?_) (a' := ?_) #[true, false, true, false, false, false, false, false, false, false] rfl rfl (by kernel_rfl) (fun _ _ _ h => h) (Or.inl ⟨by rfl, ?_⟩) ?_ ?_
              rotate_left
              · intro w'
                go_simp
                with_reducible rfl
              rotate_left
              · simp only [Act.put, List.setIfInBounds_toArray, List.set_cons_zero, List.set_cons_succ, i64_w, i32_w]
                rfl
              refine take_ (i := 1) (N := some 151) (v := ?_) (a' := ?_) #[true, true, true, false, false, false, false, false, false, false] rfl rfl (by kernel_rfl) (fun _ _ _ h => h) (Or.inl ⟨by rfl, ?_⟩) hHeld ?_ ?_
              rotate_left
              · rintro w' ⟨s0, s1, s2, s3, s4, s5, s6, s7, s8, s9, s10, s11, s12, s13, s14, s15, s16⟩
                go_simp
                with_reducible rfl
              rotate_left
              · simp only [Act.put, List.setIfInBounds_toArray, List.set_cons_zero, List.set_cons_succ, i64_w, i32_w]
                rfl
              refine take_ (i := 3) (N := some 153) (v := ?_) (a' := ?_) #[true, true, true, true, false, false, false, false, false, false] rfl rfl (by kernel_rfl) (fun _ _ _ h => h) (Or.inl ⟨by rfl, ?_⟩) hHeld ?_ ?_
              rotate_left
              · rintro w' ⟨s0, s1, s2, s3, s4, s5, s6, s7, s8, s9, s10, s11, s12, s13, s14, s15, s16⟩
                go_simp
                with_reducible rfl
              rotate_left
              · simp only [Act.put, List.setIfInBounds_toArray, List.set_cons_zero, List.set_cons_succ, i64_w, i32_w]
                rfl
              refine pure_ (i := 4) (N := some 154) (v := ?_) (a' := ?_) #[true, true, true, true, true, false, false, false, false, false] rfl rfl (by kernel_rfl) (fun _ _ _ h => h) (Or.inl ⟨by rfl, ?_⟩) ?_ ?_
              rotate_left
              · intro w'
                go_simp
                with_reducible rfl
              rotate_left
              · simp only [Act.put, List.setIfInBounds_toArray, List.set_cons_zero, List.set_cons_succ, i64_w, i32_w]
                rfl
              refine take_ (i := 5) (N := some 155) (v := ?_) (a' := ?_) #[true, true, true, true, true, true, false, false, false, false] rfl rfl (by kernel_rfl) (fun _ _ _ h => h) (Or.inl ⟨by rfl, ?_⟩) hHeld ?_ ?_
              rotate_left
              · rintro w' ⟨s0, s1, s2, s3, s4, s5, s6, s7, s8, s9, s10, s11, s12, s13, s14, s15, s16⟩
                go_simp
                with_reducible rfl
              rotate_left
              · simp only [Act.put, List.setIfInBounds_toArray, List.set_cons_zero, List.set_cons_succ, i64_w, i32_w]
                rfl
              refine one_ (i := 6) (N := some 156) #[true, true, true, true, true, true, true, false, false, false] rfl rfl (by kernel_rfl) (by decide) (fun K hK => ?_)
              refine value_ (w1 := ?_) (v := ?_) (by rfl) rfl ?_ ?_
              rotate_left 2
              · go_simp
                constructor
                · rfl
                · rfl
              refine hK.out _ _ ⟨cell_alloc z0 _, cell_alloc y0 _, cell_alloc y1 _, cell_alloc y2 _, cell_alloc y3 _, cell_alloc y4 _, cell_alloc y5 _, cell_alloc y6 _, cell_alloc y7 _, cell_alloc y8 _, cell_alloc y9 _, cell_alloc y10 _, cell_alloc y11 _, cell_alloc y12 _, cell_alloc y13 _, cell_alloc y14 _, cell_alloc y15 _⟩ (fun hHeld => ?_)
              clear hK K
              refine norm_ (a' := ?_) ?_ ?_
              rotate_left
              · show Act.put _ (some 156) _ = _
                simp only [Act.put, List.setIfInBounds_toArray, List.set_cons_zero, List.set_cons_succ, i64_w, i32_w]
                rfl
              refine last_ (i := 7) (N := some 157) #[true, true, true, true, true, true, true, true, false, false] rfl rfl (by kernel_rfl) (by decide) (fun K hK => ?_)
              refine Kd.R_append_step k31 (w0 := w) w.heap.size (by rfl) (.tmp 151) (.tmp 156) 22 31 (.agg #[(.int .i64 0), (.int .i64 0), (.int .i64 0), (.int .i64 0), (.int .i64 0), (.int .i64 0), (.int .i64 0), (.int .i64 0), (.int .i64 0), (.int .i64 0), (.int .i64 0), (.int .i64 0), (.int .i64 0), (.int .i64 0), (.int .i64 0), (.int .i64 0)]) 128 rfl Tryd.underlying22 info31 rfl (by decide) (by omega) (.slice (some ⟨ad, 0, none⟩) l.length dl) l xx [.int .i64 xx.f0.f0, .int .i64 xx.f0.f1, .int .i64 xx.f0.f2, .int .i64 xx.f0.f3, .int .i64 xx.f1.f0, .int .i64 xx.f1.f1, .int .i64 xx.f1.f2, .int .i64 xx.f1.f3, .int .i64 xx.f2.f0, .int .i64 xx.f2.f1, .int .i64 xx.f2.f2, .int .i64 xx.f2.f3, .int .i64 xx.f3.f0, .int .i64 xx.f3.f1, .int .i64 xx.f3.f2, .int .i64 xx.f3.f3] (fun _ => True) (fun _ => False) rfl rfl ?aP (fun _ hk => hk.elim) ?aF ?aO ?aB ?aS ?aL ?_
              (case aP => exact k31_mkM _ _ _ xx)
              (case aF => exact fun _ _ => trivial)
              (case aO => exact HW0.out.2.2.2.2.2.1)
              (case aB => exact HW0.out.2.2.2.2.1)
              (case aS => exact below_size HW0.out.2.2.2.2.1)
              (case aL => have := HLL.out; omega)
              intro vn w9 ho hb hg hat
              obtain ⟨yl, hyl⟩ : ∃ yl, l ++ [xx] = yl := ⟨_, rfl⟩
              rw [hyl] at ho
              have HYL := Aside0.mk hyl
              clear hyl
              have HN1 := Aside0.mk ho
              have HN2 := Aside0.mk hb
              have HN3 := Aside0.mk hg
              clear ho hb hg hat
              obtain ⟨An, cn, en⟩ := Kd.R_slice HN1.out
              subst en
              refine hK.out _ _ ?_
              clear hK K
              refine norm_ (a' := ?_) ?_ ?_
              rotate_left
              · show Act.put _ (some 157) _ = _
                simp only [Act.put, List.setIfInBounds_toArray, List.set_cons_zero, List.set_cons_succ, i64_w, i32_w]
                rfl
              refine pure_ (i := 8) (N := some 158) (v := ?_) (a' := ?_) #[true, true, true, true, true, true, true, true, true, false] rfl rfl (by kernel_rfl) (fun _ _ _ h => h) (Or.inl ⟨by rfl, ?_⟩) ?_ ?_
              rotate_left
              · intro w'
                go_simp
                with_reducible rfl
              rotate_left
              · simp only [Act.put, List.setIfInBounds_toArray, List.set_cons_zero, List.set_cons_succ, i64_w, i32_w]
                rfl
              refine last_ (i := 9) (N := none) #[true, true, true, true, true, true, true, true, true, true] rfl rfl (by kernel_rfl) (by decide) (fun K hK => ?_)
              have hs9 : w9.cell? ⟨gc, 0, none⟩ = some (.slice (some ⟨ad, 0, none⟩) l.length dl) := (blk_cell (HW0.out.grown HN3.out HN2.out).1 0).trans rfl
              have hf9 := blk_frozen (HW0.out.grown HN3.out HN2.out).1 0
              refine skip_ (w1 := ?_) (by rfl) rfl ?_ ?_
              rotate_left
              · go_simp
                rfl
              refine hK.out _ _ ?_
              clear hK K
              refine done_ (by kernel_rfl) ?_
              
              go_wp2
              go_roundg (n10 - (jj + 1))
              case measure => have := HJJ.out; omega
              case rel => exact ⟨jj + 1, by first | rfl | (congr 1; unfold wrap64; omega), ⟨by omega⟩, ⟨_, _, ⟨by rw [← HYL.out]; simp, by have := HLL.out; rw [← HYL.out, List.length_append]; simp; omega⟩, HW0.out.append HN3.out HN2.out HN1.out⟩⟩
            · have c40a : decide ((jj : Int) < (n10 : Int)) = false := decide_eq_false (by omega)
              have c40b : decide (jj < n10) = false := decide_eq_false c40
              go_wp2
              go_meet
              (case rel => obtain ⟨v0, l, hl, hoj⟩ := HOJ.out; exact hoj.rel (by have := HJJ.out; omega) (by have := HLB.out; omega) (by have := HLB.out; omega))
        have d30 : (q == 10) = false := beq_eq_false_iff_ne.2 c30
        clear c30
        go_wp2
        go_meet
        (case rel => exact HOW.out.rel (by have := HLB.out; omega) (by have := HLB.out; omega) (by have := HLB.out; omega))
      case rest =>
        clear HOW HBK HLB
        obtain ⟨A0, d0, l0, A1, d1, l1, A2, d2, l2, lo, hi, KC, HN, HC0, HC1, HC2, K, HB⟩ := hcut
        have hcz0 : _ = some (Value.slice P0 t0.length c0_0) := (blk_cell K.out 0).trans rfl
        have hcz1 : _ = some (Value.slice P1 t1.length c0_1) := (blk_cell K.out 1).trans rfl
        have hcz2 : _ = some (Value.slice P2 t2.length c0_2) := (blk_cell K.out 2).trans rfl
        have hcz3 : _ = some (Value.int .i64 m) := (blk_cell K.out 3).trans rfl
        have hcz4 : _ = some (Value.int .i64 a4) := (blk_cell K.out 4).trans rfl
        have hcy0 : _ = some (Value.slice A0 l0.length d0) := (blk_cell KC.out 0).trans rfl
        have hcy1 : _ = some (Value.slice A1 l1.length d1) := (blk_cell KC.out 1).trans rfl
        have hcy2 : _ = some (Value.slice A2 l2.length d2) := (blk_cell KC.out 2).trans rfl
        have hcy3 : _ = some (Value.int .i64 lo) := (blk_cell KC.out 3).trans rfl
        have hcy4 : _ = some (Value.int .i64 hi) := (blk_cell KC.out 4).trans rfl
        go_wp2
        have KS := Aside0.mk (blk_new wc (.cells #[.slice P0 t0.length c0_0, .slice P1 t1.length c0_1, .slice P2 t2.length c0_2, .int .i64 m, .int .i64 a4, .slice A0 l0.length d0, .slice A1 l1.length d1, .slice A2 l2.length d2, .int .i64 lo, .int .i64 hi] 26 (0, 0)))
        have HS := Aside0.mk (below_alloc (Below.refl wc.heap.size wc) (.cells #[.slice P0 t0.length c0_0, .slice P1 t1.length c0_1, .slice P2 t2.length c0_2, .int .i64 m, .int .i64 a4, .slice A0 l0.length d0, .slice A1 l1.length d1, .slice A2 l2.length d2, .int .i64 lo, .int .i64 hi] 26 (0, 0)))
        generalize wc.alloc (.cells #[.slice P0 t0.length c0_0, .slice P1 t1.length c0_1, .slice P2 t2.length c0_2, .int .i64 m, .int .i64 a4, .slice A0 l0.length d0, .slice A1 l1.length d1, .slice A2 l2.length d2, .int .i64 lo, .int .i64 hi] 26 (0, 0)) = w7 at KS HS ⊢
        clear hcz0 hcz1 hcz2 hcz3 hcz4 hcy0 hcy1 hcy2 hcy3 hcy4 K KC
        go_loopg [163] 2 (fun kq v163 w' => ∃ j : Nat, v163 = .int .i64 (j : Int) ∧ Aside0 (j ≤ 2 ∧ kq = 2 - j) ∧ Aside0 (w'.heap[wc.heap.size]? = some (.cells #[.slice P0 t0.length c0_0, .slice P1 t1.length c0_1, .slice P2 t2.length c0_2, .int .i64 m, .int .i64 a4, .slice A0 l0.length d0, .slice A1 l1.length d1, .slice A2 l2.length d2, .int .i64 lo, .int .i64 hi] 26 (0, 0))) ∧ Aside0 (Below wc.heap.size wc w'))
        case atStart => exact ⟨0, rfl, ⟨by omega⟩, KS, HS⟩
        case round =>
          clear KS HS
          obtain ⟨j, rfl, HJ, KS, HS⟩ := hrel
          obtain ⟨wo, rfl⟩ : ∃ wo : World, wo = wr := ⟨_, rfl⟩
          by_cases c6 : j < 2
          · have hrow : ∃ (B0 : Option Addr) (e0 : Nat) (s0 : List S31) (B1 : Option Addr) (e1 : Nat) (s1 : List ByteArray) (B2 : Option Addr) (e2 : Nat) (s2 : List Int) (x y : Int), wo.cell? ⟨wc.heap.size, j * 5, none⟩ = some (.slice B0 s0.length e0) ∧ wo.cell? ⟨wc.heap.size, j * 5 + 1, none⟩ = some (.slice B1 s1.length e1) ∧ wo.cell? ⟨wc.heap.size, j * 5 + 2, none⟩ = some (.slice B2 s2.length e2) ∧ wo.cell? ⟨wc.heap.size, j * 5 + 3, none⟩ = some (.int .i64 x) ∧ wo.cell? ⟨wc.heap.size, j * 5 + 4, none⟩ = some (.int .i64 y) ∧ s0.length ≤ e0 ∧ s1.length ≤ e1 ∧ s2.length ≤ e2 ∧ s0.length ≤ 20 ∧ s1.length ≤ 70 ∧ s2.length ≤ 70 ∧ Kd.C k31 wo B0 s0.length s0 ∧ Kd.C Kd.string wo B1 s1.length s1 ∧ Kd.C (Kd.int .i64) wo B2 s2.length s2 := by
              obtain rfl | rfl : j = 0 ∨ j = 1 := by omega
              · exact ⟨P0, c0_0, t0, P1, c0_1, t1, P2, c0_2, t2, m, a4, (blk_cell KS.out 0).trans rfl, (blk_cell KS.out 1).trans rfl, (blk_cell KS.out 2).trans rfl, (blk_cell KS.out 3).trans rfl, (blk_cell KS.out 4).trans rfl, HC0_0.out, HC0_1.out, HC0_2.out, by have := HL.out; omega, HL.out.2.1, HL.out.2.2, Kd.C_below HR0_0.out (below_step HB.out HS.out), Kd.C_below HR0_1.out (below_step HB.out HS.out), Kd.C_below HR0_2.out (below_step HB.out HS.out)⟩
              · obtain ⟨n1, n2, n3, n4, n5, n6⟩ := HN.out
                exact ⟨A0, d0, l0, A1, d1, l1, A2, d2, l2, lo, hi, (blk_cell KS.out 5).trans rfl, (blk_cell KS.out 6).trans rfl, (blk_cell KS.out 7).trans rfl, (blk_cell KS.out 8).trans rfl, (blk_cell KS.out 9).trans rfl, n1, n2, n3, n4, n5, n6, Kd.C_below HC0.out HS.out, Kd.C_below HC1.out HS.out, Kd.C_below HC2.out HS.out⟩
            obtain ⟨B0, e0, s0, B1, e1, s1, B2, e2, s2, x, y, z0, z1, z2, z3, z4, n1, n2, n3, n4, n5, n6, r0, r1, r2⟩ := hrow
            have c6a : decide ((j : Int) < 2) = true := decide_eq_true (by omega)
            obtain ⟨K3, rb, hR, hC⟩ := HCFG.out s0 s1 s2 x y n4 n5 n6
            have R0 := Aside0.mk r0
            have R1 := Aside0.mk r1
            have R2 := Aside0.mk r2
            have ND := Aside0.mk (And.intro n1 (And.intro n2 n3))
            have HR := Aside0.mk hR
            have HC := Aside0.mk hC
            clear r0 r1 r2 n1 n2 n3 n4 n5 n6 hR hC
            go_upto_region 41 with (fail)
            clear z0 z1 z2 z3 z4
            have KD := Aside0.mk (blk_new wo (.cells #[.slice B0 s0.length e0, .slice B1 s1.length e1, .slice B2 s2.length e2, .int .i64 x, .int .i64 y] 26 (0, 0)))
            have HE := Aside0.mk (below_alloc (Below.refl wo.heap.size wo) (.cells #[.slice B0 s0.length e0, .slice B1 s1.length e1, .slice B2 s2.length e2, .int .i64 x, .int .i64 y] 26 (0, 0)))
            generalize wo.alloc (.cells #[.slice B0 s0.length e0, .slice B1 s1.length e1, .slice B2 s2.length e2, .int .i64 x, .int .i64 y] 26 (0, 0)) = w8 at KD HE ⊢
            go_cut [171] (fun v171 wx => v171 = .bool false ∧ Aside0 (wx.heap[wo.heap.size]? = some (.cells #[.slice B0 s0.length e0, .slice B1 s1.length e1, .slice B2 s2.length e2, .int .i64 x, .int .i64 y] 26 (0, 0))) ∧ Aside0 (Below wo.heap.size wo wx))
            case first =>
              have x0 : w8.cell? ⟨wo.heap.size, 0, none⟩ = some (.slice B0 s0.length e0) := (blk_cell KD.out 0).trans rfl
              have x1 : w8.cell? ⟨wo.heap.size, 1, none⟩ = some (.slice B1 s1.length e1) := (blk_cell KD.out 1).trans rfl
              have x2 : w8.cell? ⟨wo.heap.size, 2, none⟩ = some (.slice B2 s2.length e2) := (blk_cell KD.out 2).trans rfl
              have x3 : w8.cell? ⟨wo.heap.size, 3, none⟩ = some (.int .i64 x) := (blk_cell KD.out 3).trans rfl
              have x4 : w8.cell? ⟨wo.heap.size, 4, none⟩ = some (.int .i64 y) := (blk_cell KD.out 4).trans rfl
              go_region_with (first | (go_at_call 7; (with_reducible refine (money_Right.calls K3 B0 e0 s0 B1 e1 s1 B2 e2 s2 x y rb _ (Kd.C_below R0.out (by first | exact HE.out | exact below_drew1 HE.out | exact pw_below_drewN HE.out _)) ND.out.1 (Kd.C_below R1.out (by first | exact HE.out | exact below_drew1 HE.out | exact pw_below_drewN HE.out _)) ND.out.2.1 (Kd.C_below R2.out (by first | exact HE.out | exact below_drew1 HE.out | exact pw_below_drewN HE.out _)) ND.out.2.2 HR.out).mono ?_); rintro e w9 ⟨rfl, hb⟩; have n0_ := Aside0.mk (below_step (by first | exact HE.out | exact below_drew1 HE.out | exact pw_below_drewN HE.out _) hb); have n1_ := Aside0.mk (blk_below (g := wo.heap.size) (o := .cells #[.slice B0 s0.length e0, .slice B1 s1.length e1, .slice B2 s2.length e2, .int .i64 x, .int .i64 y] 26 (0, 0)) (by first | exact KD.out | exact blk_drew KD.out | exact blk_drewN KD.out _) hb); clear HE KD hb; have HE := n0_; have KD := n1_; clear n0_ n1_; have y0 : w9.cell? ⟨wo.heap.size, 0, none⟩ = some (.slice B0 s0.length e0) := (blk_cell KD.out 0).trans rfl; have y1 : w9.cell? ⟨wo.heap.size, 1, none⟩ = some (.slice B1 s1.length e1) := (blk_cell KD.out 1).trans rfl; have y2 : w9.cell? ⟨wo.heap.size, 2, none⟩ = some (.slice B2 s2.length e2) := (blk_cell KD.out 2).trans rfl; have y3 : w9.cell? ⟨wo.heap.size, 3, none⟩ = some (.int .i64 x) := (blk_cell KD.out 3).trans rfl; have y4 : w9.cell? ⟨wo.heap.size, 4, none⟩ = some (.int .i64 y) := (blk_cell KD.out 4).trans rfl) | (go_at_call 8; (with_reducible refine (CfR.calls K3 B0 e0 s0 B1 e1 s1 B2 e2 s2 x y rb _ (Kd.C_below R0.out (by first | exact HE.out | exact below_drew1 HE.out | exact pw_below_drewN HE.out _)) ND.out.1 (Kd.C_below R1.out (by first | exact HE.out | exact below_drew1 HE.out | exact pw_below_drewN HE.out _)) ND.out.2.1 (Kd.C_below R2.out (by first | exact HE.out | exact below_drew1 HE.out | exact pw_below_drewN HE.out _)) ND.out.2.2 HC.out).mono ?_); rintro e w9 ⟨rfl, hb⟩; have n0_ := Aside0.mk (below_step (by first | exact HE.out | exact below_drew1 HE.out | exact pw_below_drewN HE.out _) hb); have n1_ := Aside0.mk (blk_below (g := wo.heap.size) (o := .cells #[.slice B0 s0.length e0, .slice B1 s1.length e1, .slice B2 s2.length e2, .int .i64 x, .int .i64 y] 26 (0, 0)) (by first | exact KD.out | exact blk_drew KD.out | exact blk_drewN KD.out _) hb); clear HE KD hb; have HE := n0_; have KD := n1_; clear n0_ n1_; have y0 : w9.cell? ⟨wo.heap.size, 0, none⟩ = some (.slice B0 s0.length e0) := (blk_cell KD.out 0).trans rfl; have y1 : w9.cell? ⟨wo.heap.size, 1, none⟩ = some (.slice B1 s1.length e1) := (blk_cell KD.out 1).trans rfl; have y2 : w9.cell? ⟨wo.heap.size, 2, none⟩ = some (.slice B2 s2.length e2) := (blk_cell KD.out 2).trans rfl; have y3 : w9.cell? ⟨wo.heap.size, 3, none⟩ = some (.int .i64 x) := (blk_cell KD.out 3).trans rfl; have y4 : w9.cell? ⟨wo.heap.size, 4, none⟩ = some (.int .i64 y) := (blk_cell KD.out 4).trans rfl))
              all_goals (go_wp2; go_meet; (case rel => exact ⟨by cases rb <;> rfl, KD, HE⟩))
            case rest =>
              clear KD HE
              obtain ⟨rfl, KD, HE⟩ := hcut
              have x3 : _ = some (Value.int .i64 x) := (blk_cell KD.out 3).trans rfl
              have x4 : _ = some (Value.int .i64 y) := (blk_cell KD.out 4).trans rfl
              go_wp2
              obtain ⟨ww, rfl⟩ : ∃ ww : World, ww = wc := ⟨_, rfl⟩
              clear x3 x4
              have KR := Aside0.mk (blk_new ww (.cells #[.int .i64 am, .int .i64 x, .int .i64 y, .int .i64 (am.tmod 2000)] 2 (0, 0)))
              have n0_ := Aside0.mk (blk_alloc KD.out (.cells #[.int .i64 am, .int .i64 x, .int .i64 y, .int .i64 (am.tmod 2000)] 2 (0, 0)))
              have n1_ := Aside0.mk (below_alloc HE.out (.cells #[.int .i64 am, .int .i64 x, .int .i64 y, .int .i64 (am.tmod 2000)] 2 (0, 0)))
              clear KD HE
              have KD := n0_
              have HE := n1_
              clear n0_ n1_
              generalize ww.alloc (.cells #[.int .i64 am, .int .i64 x, .int .i64 y, .int .i64 (am.tmod 2000)] 2 (0, 0)) = w10 at KR KD HE ⊢
              generalize ww.heap.size = gq at KR ⊢
              go_loopg [181] 4 (fun kq v181 w' => ∃ i4 : Nat, v181 = .int .i64 (i4 : Int) ∧ Aside0 (i4 ≤ 4 ∧ kq = 4 - i4) ∧ Aside0 (w'.heap[gq]? = some (.cells #[.int .i64 am, .int .i64 x, .int .i64 y, .int .i64 (am.tmod 2000)] 2 (0, 0))) ∧ Aside0 (w'.heap[wo.heap.size]? = some (.cells #[.slice B0 s0.length e0, .slice B1 s1.length e1, .slice B2 s2.length e2, .int .i64 x, .int .i64 y] 26 (0, 0))) ∧ Aside0 (Below wo.heap.size wo w'))
              case atStart => exact ⟨0, rfl, ⟨by omega⟩, KR, KD, HE⟩
              case round =>
                clear KR KD HE
                obtain ⟨i4, rfl, HJ4, KR, KD, HE⟩ := hrel
                by_cases c7 : i4 < 4
                · have c7a : decide ((i4 : Int) < 4) = true := decide_eq_true (by omega)
                  obtain ⟨aa, z0⟩ : ∃ aa : Int, wr.cell? ⟨gq, i4, none⟩ = some (.int .i64 aa) := by
                    obtain rfl | rfl | rfl | rfl : i4 = 0 ∨ i4 = 1 ∨ i4 = 2 ∨ i4 = 3 := by omega
                    · exact ⟨_, (blk_cell KR.out 0).trans rfl⟩
                    · exact ⟨_, (blk_cell KR.out 1).trans rfl⟩
                    · exact ⟨_, (blk_cell KR.out 2).trans rfl⟩
                    · exact ⟨_, (blk_cell KR.out 3).trans rfl⟩
                  go_upto_region 46 with (fail)
                  clear z0
                  go_cut [199] (fun v199 wx => v199 = .bool false ∧ Aside0 (wx.heap[gq]? = some (.cells #[.int .i64 am, .int .i64 x, .int .i64 y, .int .i64 (am.tmod 2000)] 2 (0, 0))) ∧ Aside0 (wx.heap[wo.heap.size]? = some (.cells #[.slice B0 s0.length e0, .slice B1 s1.length e1, .slice B2 s2.length e2, .int .i64 x, .int .i64 y] 26 (0, 0))) ∧ Aside0 (Below wo.heap.size wo wx))
                  case first =>
                    have x0 : wr.cell? ⟨wo.heap.size, 0, none⟩ = some (.slice B0 s0.length e0) := (blk_cell KD.out 0).trans rfl
                    have x1 : wr.cell? ⟨wo.heap.size, 1, none⟩ = some (.slice B1 s1.length e1) := (blk_cell KD.out 1).trans rfl
                    have x2 : wr.cell? ⟨wo.heap.size, 2, none⟩ = some (.slice B2 s2.length e2) := (blk_cell KD.out 2).trans rfl
                    have x3 : wr.cell? ⟨wo.heap.size, 3, none⟩ = some (.int .i64 x) := (blk_cell KD.out 3).trans rfl
                    have x4 : wr.cell? ⟨wo.heap.size, 4, none⟩ = some (.int .i64 y) := (blk_cell KD.out 4).trans rfl
                    by_cases h1 : aa < x
                    · have h1a : decide (x ≤ aa) = false := decide_eq_false (by omega)
                      have n0_ := Aside0.mk (show Below wo.heap.size wo wr.drew from HE.out.drew)
                      have n1_ := Aside0.mk (blk_drew KD.out)
                      have n2_ := Aside0.mk (blk_drew KR.out)
                      clear HE KD KR
                      have HE := n0_
                      have KD := n1_
                      have KR := n2_
                      clear n0_ n1_ n2_
                      replace x0 : wr.drew.cell? ⟨wo.heap.size, 0, none⟩ = some (.slice B0 s0.length e0) := x0
                      replace x1 : wr.drew.cell? ⟨wo.heap.size, 1, none⟩ = some (.slice B1 s1.length e1) := x1
                      replace x2 : wr.drew.cell? ⟨wo.heap.size, 2, none⟩ = some (.slice B2 s2.length e2) := x2
                      replace x3 : wr.drew.cell? ⟨wo.heap.size, 3, none⟩ = some (.int .i64 x) := x3
                      replace x4 : wr.drew.cell? ⟨wo.heap.size, 4, none⟩ = some (.int .i64 y) := x4
                      refine start_ (n := 15) (S := fun w' => w'.cell? ⟨wo.heap.size, 0, none⟩ = some (.slice B0 s0.length e0) ∧ w'.cell? ⟨wo.heap.size, 1, none⟩ = some (.slice B1 s1.length e1) ∧ w'.cell? ⟨wo.heap.size, 2, none⟩ = some (.slice B2 s2.length e2) ∧ w'.cell? ⟨wo.heap.size, 3, none⟩ = some (.int .i64 x) ∧ w'.cell? ⟨wo.heap.size, 4, none⟩ = some (.int .i64 y)) (ds := []) #[false, false, false, false, false, false, false, false, false, false, false, false, false, false, false] (by kernel_rfl) rfl rfl ⟨x0, x1, x2, x3, x4⟩ (fun hHeld => ?_)
                      generalize wr.drew = wq at HE KD KR x0 x1 x2 x3 x4 hHeld ⊢
                      refine pure_ (i := 1) (N := some 186) (v := ?_) (a' := ?_) #[false, true, false, false, false, false, false, false, false, false, false, false, false, false, false] rfl rfl (by kernel_rfl) (fun _ _ _ h => h) (Or.inl ⟨by rfl, ?_⟩) ?_ ?_
                      rotate_left
                      · intro w'
                        go_simp
                        with_reducible rfl
                      rotate_left
                      · simp only [Act.put, List.setIfInBounds_toArray, List.set_cons_zero, List.set_cons_succ, i64_w, i32_w]
                        rfl
                      refine pure_ (i := 4) (N := some 189) (v := ?_) (a' := ?_) #[false, true, false, false, true, false, false, false, false, false, false, false, false, false, false] rfl rfl (by kernel_rfl) (fun _ _ _ h => h) (Or.inl ⟨by rfl, ?_⟩) ?_ ?_
                      rotate_left
                      · intro w'
                        go_simp
                        with_reducible rfl
                      rotate_left
                      · simp only [Act.put, List.setIfInBounds_toArray, List.set_cons_zero, List.set_cons_succ, i64_w, i32_w]
                        rfl
                      refine pure_ (i := 5) (N := some 190) (v := ?_) (a' := ?_) #[false, true, false, false, true, true, false, false, false, false, false, false, false, false, false] rfl rfl (by kernel_rfl) (fun _ _ _ h => h) (Or.inl ⟨by rfl, ?_⟩) ?_ ?_
                      rotate_left
                      · intro w'
                        go_simp
                        with_reducible rfl
                      rotate_left
                      · simp only [Act.put, List.setIfInBounds_toArray, List.set_cons_zero, List.set_cons_succ, i64_w, i32_w]
                        rfl
                      refine take_ (i := 0) (N := some 185) (v := ?_) (a' := ?_) #[true, true, false, false, true, true, false, false, false, false, false, false, false, false, false] rfl rfl (by kernel_rfl) (fun _ _ _ h => h) (Or.inl ⟨by rfl, ?_⟩) hHeld ?_ ?_
                      rotate_left
                      · rintro w' ⟨s0, s1, s2, s3, s4⟩
                        go_simp
                        with_reducible rfl
                      rotate_left
                      · simp only [Act.put, List.setIfInBounds_toArray, List.set_cons_zero, List.set_cons_succ, i64_w, i32_w]
                        rfl
                      refine take_ (i := 6) (N := some 191) (v := ?_) (a' := ?_) #[true, true, false, false, true, true, true, false, false, false, false, false, false, false, false] rfl rfl (by kernel_rfl) (fun _ _ _ h => h) (Or.inl ⟨by rfl, ?_⟩) hHeld ?_ ?_
                      rotate_left
                      · rintro w' ⟨s0, s1, s2, s3, s4⟩
                        go_simp
                        with_reducible rfl
                      rotate_left
                      · simp only [Act.put, List.setIfInBounds_toArray, List.set_cons_zero, List.set_cons_succ, i64_w, i32_w]
                        rfl
                      refine pure_ (i := 7) (N := some 192) (v := ?_) (a' := ?_) #[true, true, false, false, true, true, true, true, false, false, false, false, false, false, false] rfl rfl (by kernel_rfl) (fun _ _ _ h => h) (Or.inl ⟨by rfl, ?_⟩) ?_ ?_
                      rotate_left
                      · intro w'
                        go_simp
                        with_reducible rfl
                      rotate_left
                      · simp only [Act.put, List.setIfInBounds_toArray, List.set_cons_zero, List.set_cons_succ, i64_w, i32_w]
                        rfl
                      refine one_ (i := 2) (N := some 187) #[true, true, true, false, true, true, true, true, false, false, false, false, false, false, false] rfl rfl (by kernel_rfl) (by decide) (fun K hK => ?_)
                      refine goes_ Tryd.func9 (by kernel_rfl) rfl #[.agg #[.slice B0 s0.length e0, .slice B1 s1.length e1, .slice B2 s2.length e2, .int .i64 x, .int .i64 y], .int .i64 aa] (by rfl) rfl rfl (by simp only [List.map_toArray, List.map_cons, List.map_nil]; rfl) ?_
                      with_reducible refine (money_Check.calls B0 e0 s0 B1 e1 s1 B2 e2 s2 x y aa 34 _ (Kd.C_below R0.out HE.out) ND.out.1 (Kd.C_below R1.out HE.out) ND.out.2.1 (Kd.C_below R2.out HE.out) ND.out.2.2 (by unfold money_Check.f; rw [if_pos h1])).mono ?_
                      rintro e w9 ⟨rfl, hb⟩
                      refine ⟨_, rfl, ?_⟩
                      have n0_ := Aside0.mk (below_step HE.out hb)
                      have n1_ := Aside0.mk (blk_below (g := wo.heap.size) (o := .cells #[.slice B0 s0.length e0, .slice B1 s1.length e1, .slice B2 s2.length e2, .int .i64 x, .int .i64 y] 26 (0, 0)) KD.out hb)
                      have n2_ := Aside0.mk (blk_below (g := gq) (o := .cells #[.int .i64 am, .int .i64 x, .int .i64 y, .int .i64 (am.tmod 2000)] 2 (0, 0)) KR.out hb)
                      clear HE KD KR hb
                      have HE := n0_
                      have KD := n1_
                      have KR := n2_
                      clear n0_ n1_ n2_
                      refine hK.out _ _ ⟨(blk_cell KD.out 0).trans rfl, (blk_cell KD.out 1).trans rfl, (blk_cell KD.out 2).trans rfl, (blk_cell KD.out 3).trans rfl, (blk_cell KD.out 4).trans rfl⟩ (fun hHeld => ?_)
                      clear hK K
                      refine norm_ (a' := ?_) ?_ ?_
                      rotate_left
                      · show Act.put _ (some 187) _ = _
                        simp only [Act.put, List.setIfInBounds_toArray, List.set_cons_zero, List.set_cons_succ, i64_w, i32_w]
                        rfl
                      refine pure_ (i := 3) (N := some 188) (v := ?_) (a' := ?_) #[true, true, true, true, true, true, true, true, false, false, false, false, false, false, false] rfl rfl (by kernel_rfl) (fun _ _ _ h => h) (Or.inl ⟨by rfl, ?_⟩) ?_ ?_
                      rotate_left
                      · intro w'
                        go_simp
                        with_reducible rfl
                      rotate_left
                      · simp only [Act.put, List.setIfInBounds_toArray, List.set_cons_zero, List.set_cons_succ, i64_w, i32_w]
                        rfl
                      refine pure_ (i := 8) (N := some 193) (v := ?_) (a' := ?_) #[true, true, true, true, true, true, true, true, true, false, false, false, false, false, false] rfl rfl (by kernel_rfl) (fun _ _ _ h => h) (Or.inl ⟨by rfl, ?_⟩) ?_ ?_
                      rotate_left
                      · intro w'
                        go_simp
                        with_reducible rfl
                      rotate_left
                      · simp only [Act.put, List.setIfInBounds_toArray, List.set_cons_zero, List.set_cons_succ, i64_w, i32_w]
                        rfl
                      refine pure_ (i := 9) (N := some 194) (v := undef) (a' := ?_) #[true, true, true, true, true, true, true, true, true, true, false, false, false, false, false] rfl rfl (by kernel_rfl) (fun _ _ _ h => h) (Or.inr ⟨by rfl, rfl⟩) ?_ ?_
                      rotate_left
                      · simp only [Act.put, List.setIfInBounds_toArray, List.set_cons_zero, List.set_cons_succ, i64_w, i32_w]
                        rfl
                      refine pure_ (i := 10) (N := some 195) (v := undef) (a' := ?_) #[true, true, true, true, true, true, true, true, true, true, true, false, false, false, false] rfl rfl (by kernel_rfl) (fun _ _ _ h => h) (Or.inr ⟨by rfl, rfl⟩) ?_ ?_
                      rotate_left
                      · simp only [Act.put, List.setIfInBounds_toArray, List.set_cons_zero, List.set_cons_succ, i64_w, i32_w]
                        rfl
                      refine pure_ (i := 11) (N := some 196) (v := undef) (a' := ?_) #[true, true, true, true, true, true, true, true, true, true, true, true, false, false, false] rfl rfl (by kernel_rfl) (fun _ _ _ h => h) (Or.inr ⟨by rfl, rfl⟩) ?_ ?_
                      rotate_left
                      · simp only [Act.put, List.setIfInBounds_toArray, List.set_cons_zero, List.set_cons_succ, i64_w, i32_w]
                        rfl
                      refine pure_ (i := 12) (N := some 197) (v := undef) (a' := ?_) #[true, true, true, true, true, true, true, true, true, true, true, true, true, false, false] rfl rfl (by kernel_rfl) (fun _ _ _ h => h) (Or.inr ⟨by rfl, rfl⟩) ?_ ?_
                      rotate_left
                      · simp only [Act.put, List.setIfInBounds_toArray, List.set_cons_zero, List.set_cons_succ, i64_w, i32_w]
                        rfl
                      refine pure_ (i := 13) (N := some 198) (v := ?_) (a' := ?_) #[true, true, true, true, true, true, true, true, true, true, true, true, true, true, false] rfl rfl (by kernel_rfl) (fun _ _ _ h => h) (Or.inl ⟨by rfl, ?_⟩) ?_ ?_
                      rotate_left
                      · intro w'
                        go_simp
                        with_reducible rfl
                      rotate_left
                      · simp only [Act.put, List.setIfInBounds_toArray, List.set_cons_zero, List.set_cons_succ, i64_w, i32_w]
                        rfl
                      refine pure_ (i := 14) (N := some 199) (v := ?_) (a' := ?_) #[true, true, true, true, true, true, true, true, true, true, true, true, true, true, true] rfl rfl (by kernel_rfl) (fun _ _ _ h => h) (Or.inl ⟨by rfl, ?_⟩) ?_ ?_
                      rotate_left
                      · intro w'
                        go_simp
                        with_reducible rfl
                      rotate_left
                      · simp only [Act.put, List.setIfInBounds_toArray, List.set_cons_zero, List.set_cons_succ, i64_w, i32_w]
                        rfl
                      refine done_ (by kernel_rfl) ?_
                      
                      go_wp2
                      go_meet
                      (case rel => exact ⟨rfl, KR, KD, HE⟩)
                    by_cases h2 : y < aa
                    · have h1a : decide (x ≤ aa) = true := decide_eq_true (by omega)
                      have h2a : decide (aa ≤ y) = false := decide_eq_false (by omega)
                      go_region_with ((go_at_call 9; (with_reducible refine (money_Check.calls B0 e0 s0 B1 e1 s1 B2 e2 s2 x y aa 34 _ (Kd.C_below R0.out (by first | exact HE.out | exact below_drew1 HE.out | exact pw_below_drewN HE.out _)) ND.out.1 (Kd.C_below R1.out (by first | exact HE.out | exact below_drew1 HE.out | exact pw_below_drewN HE.out _)) ND.out.2.1 (Kd.C_below R2.out (by first | exact HE.out | exact below_drew1 HE.out | exact pw_below_drewN HE.out _)) ND.out.2.2 (by unfold money_Check.f; rw [if_neg h1, if_pos h2])).mono ?_); rintro e w9 ⟨rfl, hb⟩; have n0_ := Aside0.mk (below_step (by first | exact HE.out | exact below_drew1 HE.out | exact pw_below_drewN HE.out _) hb); have n1_ := Aside0.mk (blk_below (g := wo.heap.size) (o := .cells #[.slice B0 s0.length e0, .slice B1 s1.length e1, .slice B2 s2.length e2, .int .i64 x, .int .i64 y] 26 (0, 0)) (by first | exact KD.out | exact blk_drew KD.out | exact blk_drewN KD.out _) hb); have n2_ := Aside0.mk (blk_below (g := gq) (o := .cells #[.int .i64 am, .int .i64 x, .int .i64 y, .int .i64 (am.tmod 2000)] 2 (0, 0)) (by first | exact KR.out | exact blk_drew KR.out | exact blk_drewN KR.out _) hb); clear HE KD KR hb; have HE := n0_; have KD := n1_; have KR := n2_; clear n0_ n1_ n2_; have y0 : w9.cell? ⟨wo.heap.size, 0, none⟩ = some (.slice B0 s0.length e0) := (blk_cell KD.out 0).trans rfl; have y1 : w9.cell? ⟨wo.heap.size, 1, none⟩ = some (.slice B1 s1.length e1) := (blk_cell KD.out 1).trans rfl; have y2 : w9.cell? ⟨wo.heap.size, 2, none⟩ = some (.slice B2 s2.length e2) := (blk_cell KD.out 2).trans rfl; have y3 : w9.cell? ⟨wo.heap.size, 3, none⟩ = some (.int .i64 x) := (blk_cell KD.out 3).trans rfl; have y4 : w9.cell? ⟨wo.heap.size, 4, none⟩ = some (.int .i64 y) := (blk_cell KD.out 4).trans rfl))
                      all_goals (go_wp2; go_meet; (case rel => exact ⟨rfl, KR, KD, HE⟩))
                    · have h1a : decide (x ≤ aa) = true := decide_eq_true (by omega)
                      have h2a : decide (aa ≤ y) = true := decide_eq_true (by omega)
                      go_region_with ((go_at_call 9; (with_reducible refine (money_Check.calls B0 e0 s0 B1 e1 s1 B2 e2 s2 x y aa 0 _ (Kd.C_below R0.out (by first | exact HE.out | exact below_drew1 HE.out | exact pw_below_drewN HE.out _)) ND.out.1 (Kd.C_below R1.out (by first | exact HE.out | exact below_drew1 HE.out | exact pw_below_drewN HE.out _)) ND.out.2.1 (Kd.C_below R2.out (by first | exact HE.out | exact below_drew1 HE.out | exact pw_below_drewN HE.out _)) ND.out.2.2 (by unfold money_Check.f; rw [if_neg h1, if_neg h2])).mono ?_); rintro e w9 ⟨rfl, hb⟩; have n0_ := Aside0.mk (below_step (by first | exact HE.out | exact below_drew1 HE.out | exact pw_below_drewN HE.out _) hb); have n1_ := Aside0.mk (blk_below (g := wo.heap.size) (o := .cells #[.slice B0 s0.length e0, .slice B1 s1.length e1, .slice B2 s2.length e2, .int .i64 x, .int .i64 y] 26 (0, 0)) (by first | exact KD.out | exact blk_drew KD.out | exact blk_drewN KD.out _) hb); have n2_ := Aside0.mk (blk_below (g := gq) (o := .cells #[.int .i64 am, .int .i64 x, .int .i64 y, .int .i64 (am.tmod 2000)] 2 (0, 0)) (by first | exact KR.out | exact blk_drew KR.out | exact blk_drewN KR.out _) hb); clear HE KD KR hb; have HE := n0_; have KD := n1_; have KR := n2_; clear n0_ n1_ n2_; have y0 : w9.cell? ⟨wo.heap.size, 0, none⟩ = some (.slice B0 s0.length e0) := (blk_cell KD.out 0).trans rfl; have y1 : w9.cell? ⟨wo.heap.size, 1, none⟩ = some (.slice B1 s1.length e1) := (blk_cell KD.out 1).trans rfl; have y2 : w9.cell? ⟨wo.heap.size, 2, none⟩ = some (.slice B2 s2.length e2) := (blk_cell KD.out 2).trans rfl; have y3 : w9.cell? ⟨wo.heap.size, 3, none⟩ = some (.int .i64 x) := (blk_cell KD.out 3).trans rfl; have y4 : w9.cell? ⟨wo.heap.size, 4, none⟩ = some (.int .i64 y) := (blk_cell KD.out 4).trans rfl))
                      all_goals (go_wp2; go_meet; (case rel => exact ⟨rfl, KR, KD, HE⟩))
                  case rest =>
                    clear KR KD HE
                    obtain ⟨rfl, KR, KD, HE⟩ := hcut
                    go_wp2
                    go_roundg (4 - (i4 + 1))
                    case measure => have := HJ4.out; omega
                    case rel => exact ⟨i4 + 1, by first | rfl | (congr 1; unfold wrap64; omega), ⟨by omega⟩, KR, KD, HE⟩
                · have c7a : decide ((i4 : Int) < 4) = false := decide_eq_false (by omega)
                  go_wp2
                  go_roundg (2 - (j + 1))
                  case measure => have := HJ.out; omega
                  case rel => exact ⟨j + 1, by first | rfl | (congr 1; unfold wrap64; omega), ⟨by omega⟩, ⟨blk_below KS.out HE.out⟩, ⟨below_step HS.out HE.out⟩⟩
          · have c6a : decide ((j : Int) < 2) = false := decide_eq_false (by omega)
            go_wp2
            go_ret
            exact ⟨rfl, below_step HB.out HS.out⟩
end Go.Proofs.YtjheabcffkbfkaaDoor.X
