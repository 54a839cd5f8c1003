/- The walk of guichetlaw14.TableWays: whatever Check lets in, a way to an end is found. -/
import Derived.Test.YtjheabcffkbfkaaDoorTM
import Derived.Test.YtjheabcffkbfkaaDoorTK
import Derived.Test.YtjheabcffkbfkaaDoorT3
import Derived.Test.YtjheabcffkbfkaaDoorT4
namespace Go.Proofs.YtjheabcffkbfkaaDoor.T
open Go.RowKit Go.Proofs.YtjheabcffkbfkaaDoorV.PrintWords Go.Proofs.YtjheabcffkbfkaaDoorV.PrintLast Go.Proofs.YtjheabcffkbfkaaDoorV.PrintMore
set_option linter.unusedVariables false
set_option linter.unusedSimpArgs false
theorem nextOf_take (R : List Int) (m : List S43) (k : Nat) (hk : k < m.length) : nextOf R (m.take (k + 1)) = nextOf R (m.take k) ++ (if (rd_T43 m (k : Int)).f0 ∈ R then stepOf (rd_T43 m (k : Int)) else []) := by
  unfold nextOf
  rw [List.take_add_one, List.flatMap_append]
  have : rd_T43 m (k : Int) = m[k] := by simp [rd_T43, List.getD, List.getElem?_eq_getElem hk]
  rw [this]
  simp [List.getElem?_eq_getElem hk]
def WaysEnd (m : List S43) (x : Int) : Prop := ∃ i, i ≤ m.length ∧ ∃ q, q < m.length ∧ (rd_T43 m (q : Int)).f0 ∈ reach m x i ∧ (rd_T43 m (q : Int)).f1 = 90

set_option maxHeartbeats 8000000 in
set_option maxRecDepth 100000 in
theorem law_walk (A0 : Option Addr) (c0 : Nat) (l0 : List S62) (few at_ : Int) (w : World) (hr0 : Kd.C k62 w A0 l0.length l0) (hc0 : l0.length ≤ c0) (hT : TabH w) (hat : 0 ≤ at_ ∧ at_ < 256)
    (hknown : ∃ K, guichetlaw14_known.f K = some true)
    (htab : l0.length ≤ 40 → ∃ K m, guichetseat_Table.f K l0 few = some m ∧ m.length = l0.length ∧ m.all okS = true ∧ ∀ r1 : Int, chkA m m.length 0 = (r1, 0) → ∀ q, q < m.length → WaysEnd m (rd_T43 m (q : Int)).f0) :
    Calls Tryd.prog 4 #[.slice A0 l0.length c0, .int .u8 few, .int .u8 at_] w fun e w' => e = .returned (.bool true) ∧ Below w.heap.size w w' := by
  have hu43 := Tryd.underlying43
  have HR := Aside0.mk hr0
  have HC := Aside0.mk hc0
  have HT := Aside0.mk hT
  have HAT := Aside0.mk hat
  have HTAB := Aside0.mk htab
  obtain ⟨K1, hkn⟩ := hknown
  have HKN := Aside0.mk hkn
  have HB := Aside0.mk (Below.refl w.heap.size w)
  clear hr0 hc0 hT hat htab hkn
  go_enter Tryd.func4, Tryd.ntmps4
  go_upto_region 3 with (first | (go_at_call 10; (with_reducible refine (guichetlaw14_known.calls K1 true _ HT.out HKN.out).mono ?_); rintro e w1 ⟨rfl, hb⟩; have n0_ := Aside0.mk (below_step HB.out hb); clear HB hb; have HB := n0_; clear n0_))
  by_cases c1 : 40 < l0.length
  · have c1a : decide (40 < (l0.length : Int)) = true := decide_eq_true (by omega)
    have c1b : decide (40 < l0.length) = true := decide_eq_true c1
    clear c1
    go_wp2
    go_ret
    exact ⟨rfl, HB.out⟩
  have c1a : decide (40 < (l0.length : Int)) = false := decide_eq_false (by omega)
  have c1b : decide (40 < l0.length) = false := decide_eq_false c1
  by_cases c2 : l0.length = 0
  · have c2a : ((l0.length : Int) == 0) = true := beq_iff_eq.mpr (by omega)
    have C2 := Aside0.mk c2
    clear c1 c2
    go_wp2
    go_ret
    exact ⟨rfl, HB.out⟩
  have c2a : ((l0.length : Int) == 0) = false := beq_eq_false_iff_ne.mpr (by omega)
  obtain ⟨K2, m, hm1, hm2, hm3, hm4⟩ := HTAB.out (by omega)
  have hmp : 0 < m.length := by omega
  have hml : m.length ≤ 40 := by omega
  have HM1 := Aside0.mk hm1
  have HOK := Aside0.mk (fun s hs => List.all_eq_true.mp hm3 s hs : ∀ s ∈ m, okS s = true)
  have HCH := Aside0.mk (show table_Check.f 0 m = some (chkA m m.length 0) by unfold table_Check.f; rw [if_pos ⟨by omega, hm3⟩])
  have HW := Aside0.mk hm4
  clear hm1 hm2 hm3 hm4 c1 c2
  obtain ⟨r1, r2, hr⟩ : ∃ r1 r2, chkA m m.length 0 = (r1, r2) := ⟨_, _, rfl⟩
  have HCH2 := Aside0.mk (show table_Check.f 0 m = some (r1, r2) by rw [← hr]; exact HCH.out)
  have HR12 := Aside0.mk hr
  clear hr HCH
  go_upto_region 7 with (first | (go_at_call 11; (with_reducible refine (guichetseat_Table.calls K2 A0 c0 l0 few m _ (Kd.C_below HR.out HB.out) HC.out HM1.out).mono ?_); rintro e w2 ⟨v0_, rfl, hq, hb⟩; obtain ⟨Am, cm, rfl⟩ := Kd.R_slice hq; have HQ := Aside0.mk (Kd.R_reads' hq).2; have n0_ := Aside0.mk (below_step HB.out hb); clear HB hq hb; have HB := n0_; clear n0_) | (go_at_call 12; (with_reducible refine (table_Check.calls 0 Am cm m r1 r2 _ HQ.out.2 HQ.out.1 HCH2.out).mono ?_); rintro e w3 ⟨rfl, hb⟩; have n0_ := Aside0.mk (below_step HB.out hb); have n1_ := Aside0.mk (Kd.C_below HQ.out.2 hb); clear HB HQ hb; have HB := n0_; have HM := n1_; clear n0_ n1_))
  by_cases c3 : r2 = 0
  rotate_left
  · have c3a : (r2 != 0) = true := by rw [bne_iff_ne]; exact c3
    have c3b : (r2 == 0) = false := beq_eq_false_iff_ne.mpr c3
    clear c3
    go_wp2
    go_ret
    exact ⟨rfl, HB.out⟩
  subst c3
  have HW2 := Aside0.mk (HW.out r1 HR12.out)
  clear HW HR12 HCH2
  obtain ⟨wT, rfl⟩ : ∃ wT : World, wT = w3 := ⟨_, rfl⟩
  have HBW := Aside0.mk HB.out
  clear HB
  obtain ⟨r, hrl, e4'⟩ := tmod_nat at_ HAT.out.1 m.length hmp
  have e4 : (wrap64 at_).tmod (m.length : Int) = (r : Int) := by rw [show wrap64 at_ = at_ by have := HAT.out; unfold wrap64; omega]; exact e4'
  clear e4'
  have hrb : (r : Int) < (m.length : Int) := by omega
  have hmm := @run_makeMap Tryd.prog
  obtain ⟨ad, e1, x0, x1, x2, x3⟩ := at_T43 HM.out (r : Int) (by omega) (by omega)
  subst e1
  simp only [Int.toNat_natCast] at x0 x1 x2 x3
  clear x1 x2 x3
  have lift : ∀ o : Obj, (wT.alloc o).cell? (ad.add (r * 4)) = some (.int .i64 (rd_T43 m (r : Int)).f0) := fun o => ((below_alloc (Below.refl _ _) o).cell (World.block_lt_of_cell? wT _ x0)).trans x0
  have x0' := lift (.map #[] 0)
  have HWE := Aside0.mk (HW2.out r hrl)
  have HWF := Aside0.mk (show (Lit.int .i64 (rd_T43 m (r : Int)).f0).wf = true by have := HOK.out _ (mem_ids m r hrl); simp only [okS, Bool.and_eq_true] at this; exact this.1.1)
  clear lift x0
  generalize (rd_T43 m (r : Int)).f0 = x at x0' HWE HWF
  have HN := Aside0.mk (IsSub.new Tryd.prog wT)
  have HBT := Aside0.mk (below_alloc (Below.refl wT.heap.size wT) (.map #[] 0))
  go_wp2_with (first | ((with_reducible refine gate_ (.insert 44 (.tmp 34) (.tmp 43) (.const (.bool true))) rfl ?_); refine update_sub _ rfl _ _ _ (.inr rfl) Tryd.underlying3 Tryd.underlying4 Tryd.underlying44 wT.heap.size 0 [] rfl HN.out (by omega) x rfl HWF.out rfl ?_; intro w4 hs4 hg4))
  have HS0 := Aside0.mk (show IsSub Tryd.prog w4 wT.heap.size 1 (reach m x 0) from hs4)
  have HB0 := Aside0.mk (HBT.out.grown hg4 HBT.out.size (fun j hj => by cases hj; exact Nat.le_refl _))
  clear hs4 hg4 HN HBT x0'
  go_loopg [11, 10] (m.length + 1) (fun kq v11 v10 w' => ∃ (i mb c : Nat), v11 = .int .i64 (i : Int) ∧ v10 = .map (some mb) ∧ Aside0 (i ≤ m.length + 1 ∧ kq = m.length + 1 - i ∧ c ≤ 130 ∧ wT.heap.size ≤ mb) ∧ Aside0 (IsSub Tryd.prog w' mb c (reach m x i)) ∧ Aside0 (∀ i2, i2 < i → ∀ q, q < m.length → (rd_T43 m (q : Int)).f0 ∈ reach m x i2 → (rd_T43 m (q : Int)).f1 ≠ 90) ∧ Aside0 (Below wT.heap.size wT w'))
  case atStart => exact ⟨0, wT.heap.size, 1, rfl, rfl, ⟨by omega⟩, HS0, ⟨fun i2 h => by omega⟩, HB0⟩
  case round =>
    clear HS0 HB0
    obtain ⟨i, mb, c, rfl, rfl, HI, HS, HNO, HBO⟩ := hrel
    obtain ⟨wo, rfl⟩ : ∃ wo : World, wo = wr := ⟨_, rfl⟩
    by_cases c1 : i ≤ m.length
    · have c1a : decide ((i : Int) ≤ (m.length : Int)) = true := decide_eq_true (by omega)
      have c1b : decide (i ≤ m.length) = true := decide_eq_true c1
      have c1c : decide ((m.length : Int) < (i : Int)) = false := decide_eq_false (by omega)
      have c1d : decide (m.length < i) = false := decide_eq_false (by omega)
      have HIL := Aside0.mk c1
      clear c1
      go_upto_region 14 with (fail)
      have HN := Aside0.mk (IsSub.new Tryd.prog wo)
      have HS2 := Aside0.mk (HS.out.below (below_alloc (Below.refl wo.heap.size wo) (.map #[] 0)))
      have HB2 := Aside0.mk (below_alloc HBO.out (.map #[] 0))
      have hne : mb ≠ wo.heap.size := Nat.ne_of_lt HS.out.lt
      have hge : wT.heap.size ≤ wo.heap.size := HBO.out.size
      clear HS HBO
      generalize wo.alloc (.map #[] 0) = w5 at HN HS2 HB2 ⊢
      generalize wo.heap.size = nb at HN hne hge ⊢
      go_wp2
      go_loopg [13] m.length (fun kq v13 w' => ∃ (k cn : Nat), v13 = .int .i64 (k : Int) ∧ Aside0 (k ≤ m.length ∧ kq = m.length - k ∧ cn ≤ 3 * k) ∧ Aside0 (IsSub Tryd.prog w' nb cn (nextOf (reach m x i) (m.take k))) ∧ Aside0 (IsSub Tryd.prog w' mb c (reach m x i)) ∧ Aside0 (∀ q, q < k → (rd_T43 m (q : Int)).f0 ∈ reach m x i → (rd_T43 m (q : Int)).f1 ≠ 90) ∧ Aside0 (Below wT.heap.size wT w'))
      case atStart => exact ⟨0, 0, rfl, ⟨by omega⟩, HN, HS2, ⟨fun q h => by omega⟩, HB2⟩
      case round =>
        clear HN HS2 HB2
        obtain ⟨k, cn, rfl, HK, HNX, HNOW, HNK, HB⟩ := hrel
        by_cases c2 : k < m.length
        · have c2a : decide ((k : Int) < (m.length : Int)) = true := decide_eq_true (by omega)
          have c2b : decide (k < m.length) = true := decide_eq_true c2
          obtain ⟨ad', e1, x0, x1, x2, x3⟩ := at_T43 HM.out (k : Int) (by omega) (by omega)
          obtain rfl : ad = ad' := Option.some.inj e1
          simp only [Int.toNat_natCast] at x0 x1 x2 x3
          have lift : ∀ {a : Addr} {v : Value}, wT.cell? a = some v → wr.cell? a = some v := fun {a v} h => (HB.out.cell (World.block_lt_of_cell? wT _ h)).trans h
          replace x0 := lift x0
          replace x1 := lift x1
          replace x2 := lift x2
          replace x3 := lift x3
          clear lift
          have HS := Aside0.mk (HOK.out _ (mem_ids m k c2))
          have HNT := Aside0.mk (nextOf_take (reach m x i) m k c2)
          obtain ⟨s, hs⟩ : ∃ s, rd_T43 m (k : Int) = s := ⟨_, rfl⟩
          rw [hs] at x0 x1 x2 x3
          have HSE := Aside0.mk hs
          have HNT2 := Aside0.mk (show nextOf (reach m x i) (m.take (k + 1)) = nextOf (reach m x i) (m.take k) ++ (if s.f0 ∈ reach m x i then stepOf s else []) by rw [← hs]; exact HNT.out)
          have hwf := HS.out
          simp only [okS, Bool.and_eq_true] at hwf
          rw [hs] at hwf
          have HWF := Aside0.mk hwf
          clear hs hwf HNT HS
          obtain ⟨d, hd1, hd2⟩ := HNOW.out.tells s.f0
          have HD1 := Aside0.mk hd1
          have HD2 := Aside0.mk hd2
          clear hd1 hd2
          cases d with
          | false =>
            have HNI := Aside0.mk (show ¬ s.f0 ∈ reach m x i from fun h => by have := HD1.out h; cases this)
            go_wp2_with (at_lookup; refine lookup_sub _ rfl _ _ rfl Tryd.underlying3 Tryd.underlying4 Tryd.underlying44 (zero4 _) mb c (reach m x i) rfl HNOW.out s.f0 rfl HWF.out.1.1 false HD2.out ?_)
            go_roundg (m.length - (k + 1))
            case measure => have := HK.out; omega
            case rel =>
              refine ⟨k + 1, cn, by first | rfl | (congr 1; unfold wrap64; omega), ⟨by omega, rfl, by have := HK.out; omega⟩, ⟨?_⟩, HNOW, ⟨fun q hq hm => ?_⟩, HB⟩
              · rw [HNT2.out, if_neg HNI.out, List.append_nil]; exact HNX.out
              · by_cases hqk : q = k
                · subst hqk; rw [HSE.out] at hm; exact absurd hm HNI.out
                · exact HNK.out q (by omega) hm
          | true =>
            by_cases c3 : s.f1 = 90
            · have c3a : (s.f1 == 90) = true := beq_iff_eq.mpr c3
              clear c3
              go_wp2_with (at_lookup; refine lookup_sub _ rfl _ _ rfl Tryd.underlying3 Tryd.underlying4 Tryd.underlying44 (zero4 _) mb c (reach m x i) rfl HNOW.out s.f0 rfl HWF.out.1.1 true HD2.out ?_)
              go_ret
              exact ⟨rfl, below_step HBW.out HB.out⟩
            · have c3a : (s.f1 == 90) = false := beq_eq_false_iff_ne.mpr c3
              have C3 := Aside0.mk c3
              clear c3
              go_upto_region 20 with (at_lookup; refine lookup_sub _ rfl _ _ rfl Tryd.underlying3 Tryd.underlying4 Tryd.underlying44 (zero4 _) mb c (reach m x i) rfl HNOW.out s.f0 rfl HWF.out.1.1 true HD2.out ?_)
              have HNXD := Aside0.mk (show IsSub Tryd.prog wr.drew nb cn (nextOf (reach m x i) (m.take k)) from HNX.out)
              obtain ⟨v8, born8, wa, wb, E1', E2', S1', G1'⟩ := HNXD.out.entry Tryd.underlying3 Tryd.underlying4 Tryd.underlying44 zero4 (by have := HK.out; omega) s.f0 HWF.out.1.1
              obtain ⟨v9, born9, wd, we, E3', E4', S2', G2'⟩ := S1'.entry Tryd.underlying3 Tryd.underlying4 Tryd.underlying44 zero4 (by have := HK.out; omega) s.f2 HWF.out.1.2
              have E1 := Aside0.mk E1'
              have E2 := Aside0.mk E2'
              have E3 := Aside0.mk E3'
              have E4 := Aside0.mk E4'
              have S2 := Aside0.mk S2'
              have G1 := Aside0.mk G1'
              have G2 := Aside0.mk G2'
              have n0_ := Aside0.mk (show IsSub Tryd.prog wr.drew mb c (reach m x i) from HNOW.out)
              have n1_ := Aside0.mk (show Below wT.heap.size wT wr.drew from HB.out.drew)
              replace x0 : wr.drew.cell? (ad.add (k * 4)) = some (.int .i64 s.f0) := x0
              replace x1 : wr.drew.cell? ⟨(ad.add (k * 4)).block, (ad.add (k * 4)).off + 1, none⟩ = some (.int .u8 s.f1) := x1
              replace x2 : wr.drew.cell? ⟨(ad.add (k * 4)).block, (ad.add (k * 4)).off + 2, none⟩ = some (.int .i64 s.f2) := x2
              replace x3 : wr.drew.cell? ⟨(ad.add (k * 4)).block, (ad.add (k * 4)).off + 3, none⟩ = some (.int .i64 s.f3) := x3
              clear HNOW HB HNX HNXD E1' E2' E3' E4' S1' S2' G1' G2'
              have HNOW := n0_
              have HB := n1_
              clear n0_ n1_
              refine start_ (n := 18) (S := fun w' => w'.cell? (ad.add (k * 4)) = some (.int .i64 s.f0) ∧ w'.cell? ⟨(ad.add (k * 4)).block, (ad.add (k * 4)).off + 2, none⟩ = some (.int .i64 s.f2)) (ds := [12, 14, 15, 17]) #[false, false, false, false, false, false, false, false, false, false, false, false, false, false, false, false, false, false] (by kernel_rfl) rfl rfl ⟨x0, x2⟩ (fun hHeld => ?_)
              generalize wr.drew = wq at E1 E2 E3 E4 G1 G2 S2 x0 x1 x2 x3 HNOW HB hHeld ⊢
              refine pure_ (i := 0) (N := some 72) (v := ?_) (a' := ?_) #[true, false, false, false, false, false, false, false, false, false, false, false, false, false, false, false, false, false] rfl rfl (by kernel_rfl) (fun _ _ _ h => h) (Or.inl ⟨by rfl, ?_⟩) ?_ ?_
              rotate_left
              · intro w'
                go_simp
                with_reducible rfl
              rotate_left
              · simp only [Act.put, List.setIfInBounds_toArray, List.set_cons_zero, List.set_cons_succ, i64_w, i32_w]
                rfl
              refine pure_ (i := 1) (N := some 73) (v := ?_) (a' := ?_) #[true, true, false, false, false, false, false, false, false, false, false, false, false, false, false, false, false, false] rfl rfl (by kernel_rfl) (fun _ _ _ h => h) (Or.inl ⟨by rfl, ?_⟩) ?_ ?_
              rotate_left
              · intro w'
                go_simp
                with_reducible rfl
              rotate_left
              · simp only [Act.put, List.setIfInBounds_toArray, List.set_cons_zero, List.set_cons_succ, i64_w, i32_w]
                rfl
              refine pure_ (i := 2) (N := some 74) (v := ?_) (a' := ?_) #[true, true, true, false, false, false, false, false, false, false, false, false, false, false, false, false, false, false] rfl rfl (by kernel_rfl) (fun _ _ _ h => h) (Or.inl ⟨by rfl, ?_⟩) ?_ ?_
              rotate_left
              · intro w'
                go_simp
                with_reducible rfl
              rotate_left
              · simp only [Act.put, List.setIfInBounds_toArray, List.set_cons_zero, List.set_cons_succ, i64_w, i32_w]
                rfl
              refine pure_ (i := 3) (N := some 75) (v := ?_) (a' := ?_) #[true, true, true, true, false, false, false, false, false, false, false, false, false, false, false, false, false, false] rfl rfl (by kernel_rfl) (fun _ _ _ h => h) (Or.inl ⟨by rfl, ?_⟩) ?_ ?_
              rotate_left
              · intro w'
                go_simp
                with_reducible rfl
              rotate_left
              · simp only [Act.put, List.setIfInBounds_toArray, List.set_cons_zero, List.set_cons_succ, i64_w, i32_w]
                rfl
              refine pure_ (i := 4) (N := some 76) (v := ?_) (a' := ?_) #[true, true, true, true, true, false, false, false, false, false, false, false, false, false, false, false, false, false] rfl rfl (by kernel_rfl) (fun _ _ _ h => h) (Or.inl ⟨by rfl, ?_⟩) ?_ ?_
              rotate_left
              · intro w'
                go_simp
                with_reducible rfl
              rotate_left
              · simp only [Act.put, List.setIfInBounds_toArray, List.set_cons_zero, List.set_cons_succ, i64_w, i32_w]
                rfl
              refine pure_ (i := 6) (N := some 78) (v := ?_) (a' := ?_) #[true, true, true, true, true, false, true, false, false, false, false, false, false, false, false, false, false, false] rfl rfl (by kernel_rfl) (fun _ _ _ h => h) (Or.inl ⟨by rfl, ?_⟩) ?_ ?_
              rotate_left
              · intro w'
                go_simp
                with_reducible rfl
              rotate_left
              · simp only [Act.put, List.setIfInBounds_toArray, List.set_cons_zero, List.set_cons_succ, i64_w, i32_w]
                rfl
              refine pure_ (i := 7) (N := some 79) (v := ?_) (a' := ?_) #[true, true, true, true, true, false, true, true, false, false, false, false, false, false, false, false, false, false] rfl rfl (by kernel_rfl) (fun _ _ _ h => h) (Or.inl ⟨by rfl, ?_⟩) ?_ ?_
              rotate_left
              · intro w'
                go_simp
                with_reducible rfl
              rotate_left
              · simp only [Act.put, List.setIfInBounds_toArray, List.set_cons_zero, List.set_cons_succ, i64_w, i32_w]
                rfl
              refine pure_ (i := 8) (N := some 80) (v := ?_) (a' := ?_) #[true, true, true, true, true, false, true, true, true, false, false, false, false, false, false, false, false, false] rfl rfl (by kernel_rfl) (fun _ _ _ h => h) (Or.inl ⟨by rfl, ?_⟩) ?_ ?_
              rotate_left
              · intro w'
                go_simp
                with_reducible rfl
              rotate_left
              · simp only [Act.put, List.setIfInBounds_toArray, List.set_cons_zero, List.set_cons_succ, i64_w, i32_w]
                rfl
              refine pure_ (i := 9) (N := some 81) (v := ?_) (a' := ?_) #[true, true, true, true, true, false, true, true, true, true, false, false, false, false, false, false, false, false] rfl rfl (by kernel_rfl) (fun _ _ _ h => h) (Or.inl ⟨by rfl, ?_⟩) ?_ ?_
              rotate_left
              · intro w'
                go_simp
                with_reducible rfl
              rotate_left
              · simp only [Act.put, List.setIfInBounds_toArray, List.set_cons_zero, List.set_cons_succ, i64_w, i32_w]
                rfl
              refine pure_ (i := 10) (N := some 82) (v := ?_) (a' := ?_) #[true, true, true, true, true, false, true, true, true, true, true, false, false, false, false, false, false, false] rfl rfl (by kernel_rfl) (fun _ _ _ h => h) (Or.inl ⟨by rfl, ?_⟩) ?_ ?_
              rotate_left
              · intro w'
                go_simp
                with_reducible rfl
              rotate_left
              · simp only [Act.put, List.setIfInBounds_toArray, List.set_cons_zero, List.set_cons_succ, i64_w, i32_w]
                rfl
              refine take_ (i := 5) (N := some 77) (v := ?_) (a' := ?_) #[true, true, true, true, true, true, true, true, true, true, true, false, false, false, false, false, false, false] rfl rfl (by kernel_rfl) (fun _ _ _ h => h) (Or.inl ⟨by rfl, ?_⟩) hHeld ?_ ?_
              rotate_left
              · rintro w' ⟨s0, s1⟩
                go_simp
                with_reducible rfl
              rotate_left
              · simp only [Act.put, List.setIfInBounds_toArray, List.set_cons_zero, List.set_cons_succ, i64_w, i32_w]
                rfl
              refine take_ (i := 11) (N := some 83) (v := ?_) (a' := ?_) #[true, true, true, true, true, true, true, true, true, true, true, true, false, false, false, false, false, false] rfl rfl (by kernel_rfl) (fun _ _ _ h => h) (Or.inl ⟨by rfl, ?_⟩) hHeld ?_ ?_
              rotate_left
              · rintro w' ⟨s0, s1⟩
                go_simp
                with_reducible rfl
              rotate_left
              · simp only [Act.put, List.setIfInBounds_toArray, List.set_cons_zero, List.set_cons_succ, i64_w, i32_w]
                rfl
              refine last_ (i := 12) (N := some 84) #[true, true, true, true, true, true, true, true, true, true, true, true, true, false, false, false, false, false] rfl rfl (by kernel_rfl) (by decide) (fun K hK => ?_)
              have hme := E1.out
              refine value_ (w1 := ?_) (v := ?_) (by rfl) rfl ?_ ?_
              rotate_left 2
              · go_simp
                constructor
                · rfl
                · rfl
              refine hK.out _ _ ?_
              clear hK K
              refine norm_ (a' := ?_) ?_ ?_
              rotate_left
              · show Act.put _ (some 84) _ = _
                simp only [Act.put, List.setIfInBounds_toArray, List.set_cons_zero, List.set_cons_succ, i64_w, i32_w]
                rfl
              refine pure_ (i := 13) (N := some 85) (v := ?_) (a' := ?_) #[true, true, true, true, true, true, true, true, true, true, true, true, true, true, false, false, false, false] rfl rfl (by kernel_rfl) (fun _ _ _ h => h) (Or.inl ⟨by rfl, ?_⟩) ?_ ?_
              rotate_left
              · intro w'
                go_simp
                with_reducible rfl
              rotate_left
              · simp only [Act.put, List.setIfInBounds_toArray, List.set_cons_zero, List.set_cons_succ, i64_w, i32_w]
                rfl
              refine last_ (i := 14) (N := none) #[true, true, true, true, true, true, true, true, true, true, true, true, true, true, true, false, false, false] rfl rfl (by kernel_rfl) (by decide) (fun K hK => ?_)
              have hes := E2.out
              refine skip_ (w1 := ?_) (by rfl) rfl ?_ ?_
              rotate_left
              · go_simp
                rfl
              refine hK.out _ _ ?_
              clear hK K
              refine last_ (i := 15) (N := some 86) #[true, true, true, true, true, true, true, true, true, true, true, true, true, true, true, true, false, false] rfl rfl (by kernel_rfl) (by decide) (fun K hK => ?_)
              have hme2 := E3.out
              refine value_ (w1 := ?_) (v := ?_) (by rfl) rfl ?_ ?_
              rotate_left 2
              · go_simp
                constructor
                · rfl
                · rfl
              refine hK.out _ _ ?_
              clear hK K
              refine norm_ (a' := ?_) ?_ ?_
              rotate_left
              · show Act.put _ (some 86) _ = _
                simp only [Act.put, List.setIfInBounds_toArray, List.set_cons_zero, List.set_cons_succ, i64_w, i32_w]
                rfl
              refine pure_ (i := 16) (N := some 87) (v := ?_) (a' := ?_) #[true, true, true, true, true, true, true, true, true, true, true, true, true, true, true, true, true, false] rfl rfl (by kernel_rfl) (fun _ _ _ h => h) (Or.inl ⟨by rfl, ?_⟩) ?_ ?_
              rotate_left
              · intro w'
                go_simp
                with_reducible rfl
              rotate_left
              · simp only [Act.put, List.setIfInBounds_toArray, List.set_cons_zero, List.set_cons_succ, i64_w, i32_w]
                rfl
              refine last_ (i := 17) (N := none) #[true, true, true, true, true, true, true, true, true, true, true, true, true, true, true, true, true, true] rfl rfl (by kernel_rfl) (by decide) (fun K hK => ?_)
              have hes2 := E4.out
              refine skip_ (w1 := ?_) (by rfl) rfl ?_ ?_
              rotate_left
              · go_simp
                rfl
              refine hK.out _ _ ?_
              clear hK K
              refine done_ (by kernel_rfl) ?_
              have HNOW2 := Aside0.mk ((HNOW.out.kept G1.out (fun h => hne (Option.some.inj h))).kept G2.out (fun h => hne (Option.some.inj h)))
              have HB1 := Aside0.mk (HB.out.grown G1.out HB.out.size (fun j hj => by cases hj; exact hge))
              have HB3 := Aside0.mk (HB1.out.grown G2.out HB1.out.size (fun j hj => by cases hj; exact hge))
              have lift : ∀ {a : Addr} {v : Value}, wT.cell? a = some v → we.cell? a = some v := fun {a v} h => (HB3.out.cell (World.block_lt_of_cell? wT _ h)).trans h
              obtain ⟨ad', e1', y0, y1, y2, y3⟩ := at_T43 HM.out (k : Int) (by omega) (by omega)
              obtain rfl : ad = ad' := Option.some.inj e1'
              simp only [Int.toNat_natCast] at y0 y1 y2 y3
              rw [HSE.out] at y0 y1 y2 y3
              replace y1 := lift y1
              replace y3 := lift y3
              clear lift y0 y2 x0 x1 x2 x3 HNOW HB HB1 E1 E2 E3 E4 G1 G2
              have HST := Aside0.mk (show ∀ y ∈ nextOf (reach m x i) (m.take k) ++ [s.f0, s.f2], y ∈ nextOf (reach m x i) (m.take k) ++ [s.f0] ++ [s.f2] from fun y hy => by simpa using hy)
              have HNK2 := Aside0.mk (show ∀ q, q < k + 1 → (rd_T43 m (q : Int)).f0 ∈ reach m x i → (rd_T43 m (q : Int)).f1 ≠ 90 from fun q hq hm => by
                by_cases hqk : q = k
                · subst hqk; rw [HSE.out]; exact C3.out
                · exact HNK.out q (by omega) hm)
              by_cases d66 : s.f1 = 66
              · skip
                have k66 : (s.f1 == 66) = true := beq_iff_eq.mpr d66
                have HSP := Aside0.mk (show stepOf s = [s.f0, s.f2] ++ [s.f3] by unfold stepOf; rw [if_pos (by omega)])
                clear d66
                go_wp2_with (at_mapUpdate; refine update_sub _ rfl _ _ _ (.inl rfl) Tryd.underlying3 Tryd.underlying4 Tryd.underlying44 nb _ _ rfl S2.out (by have := HK.out; omega) s.f3 rfl HWF.out.2 rfl ?_; intro w9 hs9 hg9)
                go_roundg (m.length - (k + 1))
                case measure => have := HK.out; omega
                case rel =>
                  refine ⟨k + 1, cn + 1 + 1 + 1, by first | rfl | (congr 1; unfold wrap64; omega), ⟨by omega, rfl, by have := HK.out; omega⟩, ⟨hs9.less fun y hy => ?_⟩, ⟨HNOW2.out.kept hg9 (fun h => hne (Option.some.inj h))⟩, HNK2, ⟨HB3.out.grown hg9 HB3.out.size (fun j hj => by cases hj; exact hge)⟩⟩
                  rw [HNT2.out, HSP.out] at hy
                  rcases List.mem_append.mp hy with hy | hy
                  · exact List.mem_append_left _ (HST.out y (List.mem_append_left _ hy))
                  · split at hy
                    · rcases List.mem_append.mp hy with hy | hy
                      · exact List.mem_append_left _ (HST.out y (List.mem_append_right _ hy))
                      · exact List.mem_append_right _ hy
                    · cases hy
              by_cases d68 : s.f1 = 68
              · skip
                have k66 : (s.f1 == 66) = false := beq_eq_false_iff_ne.mpr d66
                have k68 : (s.f1 == 68) = true := beq_iff_eq.mpr d68
                have HSP := Aside0.mk (show stepOf s = [s.f0, s.f2] ++ [s.f3] by unfold stepOf; rw [if_pos (by omega)])
                clear d66 d68
                go_wp2_with (at_mapUpdate; refine update_sub _ rfl _ _ _ (.inl rfl) Tryd.underlying3 Tryd.underlying4 Tryd.underlying44 nb _ _ rfl S2.out (by have := HK.out; omega) s.f3 rfl HWF.out.2 rfl ?_; intro w9 hs9 hg9)
                go_roundg (m.length - (k + 1))
                case measure => have := HK.out; omega
                case rel =>
                  refine ⟨k + 1, cn + 1 + 1 + 1, by first | rfl | (congr 1; unfold wrap64; omega), ⟨by omega, rfl, by have := HK.out; omega⟩, ⟨hs9.less fun y hy => ?_⟩, ⟨HNOW2.out.kept hg9 (fun h => hne (Option.some.inj h))⟩, HNK2, ⟨HB3.out.grown hg9 HB3.out.size (fun j hj => by cases hj; exact hge)⟩⟩
                  rw [HNT2.out, HSP.out] at hy
                  rcases List.mem_append.mp hy with hy | hy
                  · exact List.mem_append_left _ (HST.out y (List.mem_append_left _ hy))
                  · split at hy
                    · rcases List.mem_append.mp hy with hy | hy
                      · exact List.mem_append_left _ (HST.out y (List.mem_append_right _ hy))
                      · exact List.mem_append_right _ hy
                    · cases hy
              by_cases d69 : s.f1 = 69
              · skip
                have k66 : (s.f1 == 66) = false := beq_eq_false_iff_ne.mpr d66
                have k68 : (s.f1 == 68) = false := beq_eq_false_iff_ne.mpr d68
                have k69 : (s.f1 == 69) = true := beq_iff_eq.mpr d69
                have HSP := Aside0.mk (show stepOf s = [s.f0, s.f2] ++ [s.f3] by unfold stepOf; rw [if_pos (by omega)])
                clear d66 d68 d69
                go_wp2_with (at_mapUpdate; refine update_sub _ rfl _ _ _ (.inl rfl) Tryd.underlying3 Tryd.underlying4 Tryd.underlying44 nb _ _ rfl S2.out (by have := HK.out; omega) s.f3 rfl HWF.out.2 rfl ?_; intro w9 hs9 hg9)
                go_roundg (m.length - (k + 1))
                case measure => have := HK.out; omega
                case rel =>
                  refine ⟨k + 1, cn + 1 + 1 + 1, by first | rfl | (congr 1; unfold wrap64; omega), ⟨by omega, rfl, by have := HK.out; omega⟩, ⟨hs9.less fun y hy => ?_⟩, ⟨HNOW2.out.kept hg9 (fun h => hne (Option.some.inj h))⟩, HNK2, ⟨HB3.out.grown hg9 HB3.out.size (fun j hj => by cases hj; exact hge)⟩⟩
                  rw [HNT2.out, HSP.out] at hy
                  rcases List.mem_append.mp hy with hy | hy
                  · exact List.mem_append_left _ (HST.out y (List.mem_append_left _ hy))
                  · split at hy
                    · rcases List.mem_append.mp hy with hy | hy
                      · exact List.mem_append_left _ (HST.out y (List.mem_append_right _ hy))
                      · exact List.mem_append_right _ hy
                    · cases hy
              have k66 : (s.f1 == 66) = false := beq_eq_false_iff_ne.mpr d66
              have k68 : (s.f1 == 68) = false := beq_eq_false_iff_ne.mpr d68
              have k69 : (s.f1 == 69) = false := beq_eq_false_iff_ne.mpr d69
              have HSP := Aside0.mk (show stepOf s = [s.f0, s.f2] by unfold stepOf; rw [if_neg (by omega)]; rfl)
              clear d66 d68 d69
              go_wp2
              go_roundg (m.length - (k + 1))
              case measure => have := HK.out; omega
              case rel =>
                refine ⟨k + 1, cn + 1 + 1, by first | rfl | (congr 1; unfold wrap64; omega), ⟨by omega, rfl, by have := HK.out; omega⟩, ⟨S2.out.less fun y hy => ?_⟩, HNOW2, HNK2, HB3⟩
                rw [HNT2.out, HSP.out] at hy
                refine HST.out y ?_
                rcases List.mem_append.mp hy with hy | hy
                · exact List.mem_append_left _ hy
                · split at hy
                  · exact List.mem_append_right _ hy
                  · cases hy
        · have c2a : decide ((k : Int) < (m.length : Int)) = false := decide_eq_false (by omega)
          have c2b : decide (k < m.length) = false := decide_eq_false c2
          have e : k = m.length := by have := HK.out; omega
          have HR1 := Aside0.mk (show IsSub Tryd.prog wr nb cn (reach m x (i + 1)) by have := HNX.out; rw [e, List.take_of_length_le (Nat.le_refl _)] at this; exact this)
          go_wp2
          go_roundg (m.length + 1 - (i + 1))
          case measure => have := HIL.out; have := HI.out; omega
          case rel =>
            refine ⟨i + 1, nb, cn, by first | rfl | (congr 1; have := HIL.out; unfold wrap64; omega), rfl, ⟨by have := HIL.out; omega, by have := HIL.out; omega, by have := HK.out; omega, hge⟩, HR1, ⟨fun i2 h2 q hq hm => ?_⟩, HB⟩
            by_cases hi2 : i2 = i
            · subst hi2; exact HNK.out q (by omega) hm
            · exact HNO.out i2 (by omega) q hq hm
    · exfalso
      obtain ⟨i2, hi2, q, hq, hm1, hm2⟩ := HWE.out
      exact HNO.out i2 (by omega) q hq hm1 hm2
end Go.Proofs.YtjheabcffkbfkaaDoor.T
