/- The walk of table.Check: what is wrong with states, and where. -/
import Derived.Test.YtjheabcffkbfkaaDoorTE
namespace Go.Proofs.YtjheabcffkbfkaaDoor.T
open Go.RowKit Go.Proofs.YtjheabcffkbfkaaDoorV.PrintWords Go.Proofs.YtjheabcffkbfkaaDoorV.PrintLast Go.Proofs.YtjheabcffkbfkaaDoorV.PrintMore
set_option linter.unusedVariables false
set_option linter.unusedSimpArgs false
def table_Check.f (k : Nat) (l : List S43) : Option (Int × Int) := if l.length ≤ 100 ∧ l.all okS = true then some (chkA l l.length 0) else none
theorem table_Check.mono : ∀ l k, LeO (table_Check.f k l) (table_Check.f (k + 1) l) := fun _ _ => LeO.refl _
theorem ids_take (l : List S43) (j : Nat) (hj : j < l.length) : (ids l).take (j + 1) = (ids l).take j ++ [(rd_T43 l (j : Int)).f0] := by
  rw [List.take_add_one]
  simp [ids, rd_T43, List.getD, List.getElem?_eq_getElem hj]
theorem ids_take_len (l : List S43) (j : Nat) (hj : j ≤ l.length) : ((ids l).take j).length = j := by
  rw [List.length_take, ids, List.length_map]; omega
theorem at_boolC {w : World} {A : Option Addr} {n : Nat} {xs : List Bool} (h : Kd.C Kd.bool w A n xs) (i : Nat) (h1 : i < n) : ∃ ad, A = some ad ∧ w.cell? (ad.add i) = some (.bool (xs.getD i false)) := by
  obtain ⟨ad, c, e, _, hK, hc⟩ := Kd.C_get h false (i : Int) (by omega) (by omega)
  have hK : c = [Value.bool (xs.getD i false)] := hK
  subst hK
  have := hc 0 _ rfl
  refine ⟨ad, e, ?_⟩
  simpa [Kd.bool, Kd.scalar] using this

set_option maxHeartbeats 4000000 in
set_option maxRecDepth 100000 in
theorem table_Check.calls (k : Nat) (A0 : Option Addr) (c0 : Nat) (l : List S43) (r1 r2 : Int) (w : World) (hr0 : Kd.C k43 w A0 l.length l) (hc0 : l.length ≤ c0) (h : table_Check.f k l = some (r1, r2)) :
    Calls Tryd.prog 12 #[.slice A0 l.length c0] w fun e w' => e = .returned (.tuple #[.int .i64 r1, .int .i64 r2]) ∧ Below w.heap.size w w' := by
  unfold table_Check.f at h
  split at h
  rotate_left
  · cases h
  rename_i hcond
  have hres := Option.some.inj h
  have hl : l.length ≤ 100 := hcond.1
  have hu43 := Tryd.underlying43
  have HR := Aside0.mk hr0
  have HC := Aside0.mk hc0
  have HL := Aside0.mk hl
  have HOK := Aside0.mk (fun s hs => List.all_eq_true.mp hcond.2 s hs : ∀ s ∈ l, okS s = true)
  have HF := Aside0.mk hres
  have hmm := @run_makeMap Tryd.prog
  clear hr0 hc0 h hcond hres
  go_enter Tryd.func12, Tryd.ntmps12
  go_upto_region 2 with (fail)
  have HM := Aside0.mk (IsAt.new Tryd.prog w)
  have HB := Aside0.mk (below_alloc (Below.refl w.heap.size w) (.map #[] 0))
  generalize w.alloc (.map #[] 0) = w1 at HM HB ⊢
  have hmw : w.heap.size ≤ w.heap.size := Nat.le_refl _
  go_wp2
  go_loopg [20] l.length (fun kq v20 w' => ∃ j : Nat, v20 = .int .i64 (j : Int) ∧ Aside0 (j ≤ l.length ∧ kq = l.length - j) ∧ Aside0 (chkA l (l.length - j) j = (r1, r2)) ∧ Aside0 (IsAt Tryd.prog w' w.heap.size ((ids l).take j)) ∧ Aside0 (Below w.heap.size w w'))
  case atStart => exact ⟨0, rfl, ⟨by omega⟩, HF, HM, HB⟩
  case round =>
    clear HF HM HB hmm
    obtain ⟨j, rfl, HI, HF, HM, HB⟩ := hrel
    obtain ⟨w2, rfl⟩ : ∃ w2 : World, w2 = wr := ⟨_, rfl⟩
    by_cases c1 : j < l.length
    · have c1a : decide ((j : Int) < (l.length : Int)) = true := decide_eq_true (by omega)
      have c1b : decide (j < l.length) = true := decide_eq_true c1
      obtain ⟨ad, e1, x0, x1, x2, x3⟩ := at_T43 HR.out (j : Int) (by omega) (by omega)
      subst e1
      simp only [Int.toNat_natCast] at x0 x1 x2 x3
      have lift : ∀ {a : Addr} {v : Value}, w.cell? a = some v → w2.cell? a = some v := fun {a v} h => (HB.out.cell (World.block_lt_of_cell? w _ h)).trans h
      replace x0 := lift x0
      replace x1 := lift x1
      replace x2 := lift x2
      replace x3 := lift x3
      clear lift
      have htl := ids_take_len l j (by omega)
      have hts := ids_take l j c1
      have hF := HF.out
      rw [show l.length - j = (l.length - (j + 1)) + 1 by omega, chkA] at hF
      have hwf : (Lit.int .i64 (rd_T43 l (j : Int)).f0).wf = true := by
        have := HOK.out _ (mem_ids l j c1)
        simp only [okS, Bool.and_eq_true] at this
        exact this.1.1
      have HTL := Aside0.mk htl
      have HTS := Aside0.mk hts
      have HFF := Aside0.mk hF
      have HWF := Aside0.mk hwf
      clear htl hts hF hwf HF
      generalize rd_T43 l (j : Int) = s at x0 x1 x2 x3 HTS HFF HWF
      go_upto_region 5 with (fail)
      clear x0 x1 x2 x3
      have KB := Aside0.mk (blk_new w2 (.cells #[.int .i64 s.f0, .int .u8 s.f1, .int .i64 s.f2, .int .i64 s.f3] 43 (0, 0)))
      have n0_ := Aside0.mk (HM.out.below (below_alloc (Below.refl _ _) (.cells #[.int .i64 s.f0, .int .u8 s.f1, .int .i64 s.f2, .int .i64 s.f3] 43 (0, 0))))
      have n1_ := Aside0.mk (below_alloc HB.out (.cells #[.int .i64 s.f0, .int .u8 s.f1, .int .i64 s.f2, .int .i64 s.f3] 43 (0, 0)))
      have hgb : w.heap.size ≤ w2.heap.size := HB.out.size
      clear HM HB
      have HM := n0_
      have HB := n1_
      clear n0_ n1_
      generalize w2.alloc (.cells #[.int .i64 s.f0, .int .u8 s.f1, .int .i64 s.f2, .int .i64 s.f3] 43 (0, 0)) = w3 at KB HM HB ⊢
      generalize w2.heap.size = gb at KB hgb ⊢
      have k0 : w3.cell? ⟨gb, 0, none⟩ = some (.int .i64 s.f0) := (blk_cell KB.out 0).trans rfl
      by_cases c2 : s.f0 ∈ (ids l).take j
      · have HFR := Aside0.mk (show ((j : Int), (31 : Int)) = (r1, r2) by have := HFF.out; rw [if_pos c2] at this; exact this)
        have D := Aside0.mk (decide_eq_true c2)
        clear c2 HFF
        go_wp2_with (at_lookup; refine lookup_at_ok _ rfl _ _ rfl Tryd.underlying3 Tryd.underlying63 (zero3 _) w.heap.size _ rfl HM.out s.f0 rfl HWF.out true D.out ?_; intro c)
        go_ret2
        obtain ⟨rfl, rfl⟩ := Prod.mk.inj HFR.out
        exact ⟨rfl, HB.out⟩
      · have HFR := Aside0.mk (show chkA l (l.length - (j + 1)) (j + 1) = (r1, r2) by have := HFF.out; rw [if_neg c2] at this; exact this)
        have D := Aside0.mk (decide_eq_false c2)
        have C2 := Aside0.mk c2
        clear c2 HFF
        go_wp2_with (first | (at_lookup; refine lookup_at_ok _ rfl _ _ rfl Tryd.underlying3 Tryd.underlying63 (zero3 _) w.heap.size _ rfl HM.out s.f0 rfl HWF.out false D.out ?_; intro c) | (at_mapUpdate; refine update_at _ rfl _ _ _ rfl Tryd.underlying3 Tryd.underlying63 w.heap.size ((ids l).take j) rfl HM.out (by rw [HTL.out]; omega) s.f0 rfl HWF.out C2.out (by rw [HTL.out]; rfl) ?_; intro w4 hm4 hg4))
        go_roundg (l.length - (j + 1))
        case measure => have := HI.out; omega
        case rel => exact ⟨j + 1, by first | rfl | (congr 1; unfold wrap64; omega), ⟨by omega⟩, HFR, ⟨by rw [HTS.out]; exact hm4⟩, ⟨HB.out.grown hg4 HB.out.size (fun j hj => by cases hj; exact hmw)⟩⟩
    · have c1a : decide ((j : Int) < (l.length : Int)) = false := decide_eq_false (by omega)
      have c1b : decide (j < l.length) = false := decide_eq_false c1
      have e : j = l.length := by have := HI.out; omega
      have HFB := Aside0.mk (show chkB l l.length 0 = (r1, r2) by have := HF.out; rw [e, Nat.sub_self, chkA] at this; exact this)
      have HM1 := Aside0.mk (show IsAt Tryd.prog w2 w.heap.size (ids l) by have := HM.out; rw [e, List.take_of_length_le (by simp [ids])] at this; exact this)
      clear e HF HM HI
      go_wp2
      go_loopg [41] l.length (fun kq v41 w' => ∃ i : Nat, v41 = .int .i64 (i : Int) ∧ Aside0 (i ≤ l.length ∧ kq = l.length - i) ∧ Aside0 (chkB l (l.length - i) i = (r1, r2)) ∧ Aside0 (∀ q, q < i → leadsIn (ids l) (leadsOf (rd_T43 l (q : Int))) = true) ∧ Aside0 (IsAt Tryd.prog w' w.heap.size (ids l)) ∧ Aside0 (Below w.heap.size w w'))
      case atStart => exact ⟨0, rfl, ⟨by omega⟩, HFB, ⟨fun q h => by omega⟩, HM1, HB⟩
      case round =>
        clear HFB HM1 HB
        obtain ⟨i, rfl, HI, HF, HIN, HM, HB⟩ := hrel
        obtain ⟨w5, rfl⟩ : ∃ w5 : World, w5 = wr := ⟨_, rfl⟩
        by_cases c2 : i < l.length
        · have c2a : decide ((i : Int) < (l.length : Int)) = true := decide_eq_true (by omega)
          have c2b : decide (i < l.length) = true := decide_eq_true c2
          obtain ⟨ad, e1, x0, x1, x2, x3⟩ := at_T43 HR.out (i : Int) (by omega) (by omega)
          subst e1
          simp only [Int.toNat_natCast] at x0 x1 x2 x3
          have lift : ∀ {a : Addr} {v : Value}, w.cell? a = some v → w5.cell? a = some v := fun {a v} h => (HB.out.cell (World.block_lt_of_cell? w _ h)).trans h
          replace x0 := lift x0
          replace x1 := lift x1
          replace x2 := lift x2
          replace x3 := lift x3
          clear lift
          have hF := HF.out
          rw [show l.length - i = (l.length - (i + 1)) + 1 by omega, chkB] at hF
          have HFF := Aside0.mk hF
          have HS := Aside0.mk (HOK.out _ (mem_ids l i c2))
          obtain ⟨s, hs⟩ : ∃ s, rd_T43 l (i : Int) = s := ⟨_, rfl⟩
          have HSE := Aside0.mk hs
          rw [hs] at x0 x1 x2 x3
          have HFF2 := Aside0.mk (show (if leadsIn (ids l) (leadsOf s) = true then chkB l (l.length - (i + 1)) (i + 1) else ((i : Int), 32)) = (r1, r2) by rw [← hs]; exact HFF.out)
          have HS2 := Aside0.mk (show okS s = true by rw [← hs]; exact HS.out)
          clear hs hF HF HFF HS
          go_upto_region 13 with (fail)
          clear x0 x1 x2 x3
          have KB := Aside0.mk (blk_new w5 (.cells #[.int .i64 s.f0, .int .u8 s.f1, .int .i64 s.f2, .int .i64 s.f3] 43 (0, 0)))
          have n0_ := Aside0.mk (HM.out.below (below_alloc (Below.refl _ _) (.cells #[.int .i64 s.f0, .int .u8 s.f1, .int .i64 s.f2, .int .i64 s.f3] 43 (0, 0))))
          have n1_ := Aside0.mk (below_alloc HB.out (.cells #[.int .i64 s.f0, .int .u8 s.f1, .int .i64 s.f2, .int .i64 s.f3] 43 (0, 0)))
          have hgb : w.heap.size ≤ w5.heap.size := HB.out.size
          clear HM HB
          have HM := n0_
          have HB := n1_
          clear n0_ n1_
          generalize w5.alloc (.cells #[.int .i64 s.f0, .int .u8 s.f1, .int .i64 s.f2, .int .i64 s.f3] 43 (0, 0)) = w6 at KB HM HB ⊢
          generalize w5.heap.size = gb at KB hgb ⊢
          have k0 : w6.cell? ⟨gb, 0, none⟩ = some (.int .i64 s.f0) := (blk_cell KB.out 0).trans rfl
          have k1 : w6.cell? ⟨gb, 1, none⟩ = some (.int .u8 s.f1) := (blk_cell KB.out 1).trans rfl
          have k2 : w6.cell? ⟨gb, 2, none⟩ = some (.int .i64 s.f2) := (blk_cell KB.out 2).trans rfl
          have k3 : w6.cell? ⟨gb, 3, none⟩ = some (.int .i64 s.f3) := (blk_cell KB.out 3).trans rfl
          go_wp2_with (go_at_call 24; (with_reducible refine (table_Leads.calls s.f0 s.f1 s.f2 s.f3 (leadsOf s) _ (leads_f s)).mono ?_); rintro e w7 ⟨v0_, rfl, hq, hb⟩; obtain ⟨AL, cl, rfl⟩ := Kd.R_slice hq; have HQ := Aside0.mk (Kd.R_reads' hq).2.2; have n0_ := Aside0.mk (HM.out.below hb); have n1_ := Aside0.mk (below_step HB.out hb); clear HM HB k0 k1 k2 k3 hq hb KB; have HM := n0_; have HB := n1_; clear n0_ n1_)
          have hlen := leads_len s
          go_loopg [49] 3 (fun kq v49 w' => ∃ q : Nat, v49 = .int .i64 (q : Int) ∧ Aside0 (q ≤ (leadsOf s).length ∧ kq = 3 - q) ∧ Aside0 (leadsIn (ids l) ((leadsOf s).drop q) = leadsIn (ids l) (leadsOf s)) ∧ Aside0 (Below w7.heap.size w7 w'))
          case atStart => exact ⟨0, rfl, ⟨by omega⟩, ⟨rfl⟩, ⟨Below.refl _ _⟩⟩
          case round =>
            obtain ⟨q, rfl, HI3, HL3, HB3⟩ := hrel
            have HQr := Aside0.mk (Kd.C_below HQ.out HB3.out)
            have HMr := Aside0.mk (HM.out.below HB3.out)
            have HBr := Aside0.mk (below_step HB.out HB3.out)
            by_cases c3 : q < (leadsOf s).length
            · have c3a : decide ((q : Int) < ((leadsOf s).length : Int)) = true := decide_eq_true (by omega)
              have c3b : decide (q < (leadsOf s).length) = true := decide_eq_true c3
              obtain ⟨ad2, e2, z0⟩ := Kd.at_int HQr.out (q : Int) (by omega) (by omega)
              subst e2
              simp only [Int.toNat_natCast] at z0
              have hmem : rd (leadsOf s) (q : Int) ∈ leadsOf s := by
                have : rd (leadsOf s) (q : Int) = (leadsOf s)[q] := by simp [rd, List.getD, List.getElem?_eq_getElem c3]
                rw [this]; exact List.getElem_mem c3
              have hdr : (leadsOf s).drop q = rd (leadsOf s) (q : Int) :: (leadsOf s).drop (q + 1) := by
                rw [List.drop_eq_getElem_cons c3]
                simp [rd, List.getD, List.getElem?_eq_getElem c3]
              have HL4 := Aside0.mk (show (decide (rd (leadsOf s) (q : Int) ∈ ids l) && leadsIn (ids l) ((leadsOf s).drop (q + 1))) = leadsIn (ids l) (leadsOf s) by have := HL3.out; rw [hdr, leadsIn] at this; exact this)
              have HWF := Aside0.mk (leads_wf s HS2.out _ hmem)
              clear hdr hmem
              generalize rd (leadsOf s) (q : Int) = nn at z0 HL4 HWF
              cases hd : decide (nn ∈ ids l) with
              | true =>
                have HD := Aside0.mk hd
                clear hd
                go_wp2_with (at_lookup; refine lookup_at_ok _ rfl _ _ rfl Tryd.underlying3 Tryd.underlying63 (zero3 _) w.heap.size _ rfl HMr.out nn rfl HWF.out true HD.out ?_; intro c)
                go_roundg (3 - (q + 1))
                case measure => have := HI3.out; omega
                case rel => exact ⟨q + 1, by first | rfl | (congr 1; unfold wrap64; omega), ⟨by omega⟩, ⟨by have := HL4.out; rw [HD.out] at this; simpa using this⟩, HB3⟩
              | false =>
                have HD := Aside0.mk hd
                clear hd
                have HFR := Aside0.mk (show ((i : Int), (32 : Int)) = (r1, r2) by have h1 := HL4.out; rw [HD.out] at h1; have h2 := HFF2.out; rw [← h1] at h2; simpa using h2)
                go_wp2_with (at_lookup; refine lookup_at_ok _ rfl _ _ rfl Tryd.underlying3 Tryd.underlying63 (zero3 _) w.heap.size _ rfl HMr.out nn rfl HWF.out false HD.out ?_; intro c)
                go_ret2
                obtain ⟨rfl, rfl⟩ := Prod.mk.inj HFR.out
                exact ⟨rfl, HBr.out⟩
            · have c3a : decide ((q : Int) < ((leadsOf s).length : Int)) = false := decide_eq_false (by omega)
              have c3b : decide (q < (leadsOf s).length) = false := decide_eq_false c3
              have hin1 : leadsIn (ids l) (leadsOf s) = true := by
                have := HL3.out
                rw [List.drop_of_length_le (by omega)] at this
                rw [← this]; rfl
              have HIN1 := Aside0.mk hin1
              clear hin1
              go_wp2
              go_roundg (l.length - (i + 1))
              case measure => have := HI.out; omega
              case rel =>
                refine ⟨i + 1, by first | rfl | (congr 1; unfold wrap64; omega), ⟨by omega⟩, ⟨?_⟩, ⟨fun p hp => ?_⟩, HMr, HBr⟩
                · have := HFF2.out
                  rw [if_pos HIN1.out] at this
                  exact this
                · by_cases hpi : p = i
                  · subst hpi
                    rw [HSE.out]; exact HIN1.out
                  · exact HIN.out p (by omega)
        · have c2a : decide ((i : Int) < (l.length : Int)) = false := decide_eq_false (by omega)
          have c2b : decide (i < l.length) = false := decide_eq_false c2
          have e : i = l.length := by have := HI.out; omega
          have HFC := Aside0.mk (show chkC (endsOf l) l.length 0 = (r1, r2) by have := HF.out; rw [e, Nat.sub_self, chkB] at this; exact this)
          have HIN2 := Aside0.mk (show ∀ q, q < l.length → leadsIn (ids l) (leadsOf (rd_T43 l (q : Int))) = true by rw [← e]; exact HIN.out)
          have HEL := Aside0.mk (ends_len l)
          clear e HF HIN HI
          go_wp2_with (go_at_call 25; (with_reducible refine (table_ends.calls A0 c0 l w.heap.size _ (Kd.C_below HR.out HB.out) HC.out HM.out HL.out HOK.out HIN2.out).mono ?_); rintro e w8 ⟨v0_, rfl, hq, hb⟩; obtain ⟨AO, co, rfl⟩ := Kd.R_slice hq; have HQ := Aside0.mk (Kd.R_reads' hq).2.2; have n1_ := Aside0.mk (below_step HB.out hb); clear HM HB hq hb; have HB := n1_; clear n1_)
          go_loopg [68] l.length (fun kq v68 w' => ∃ q : Nat, v68 = .int .i64 (q : Int) ∧ Aside0 (q ≤ l.length ∧ kq = l.length - q) ∧ Aside0 (chkC (endsOf l) (l.length - q) q = (r1, r2)) ∧ Aside0 (Below w8.heap.size w8 w'))
          case atStart => exact ⟨0, rfl, ⟨by omega⟩, HFC, ⟨Below.refl _ _⟩⟩
          case round =>
            clear HFC
            obtain ⟨q, rfl, HI, HF, HB3⟩ := hrel
            have HQr := Aside0.mk (Kd.C_below HQ.out HB3.out)
            have HBr := Aside0.mk (below_step HB.out HB3.out)
            by_cases c3 : q < l.length
            · have c3a : decide ((q : Int) < ((endsOf l).length : Int)) = true := decide_eq_true (by rw [HEL.out]; omega)
              have c3b : decide (q < (endsOf l).length) = true := decide_eq_true (by rw [HEL.out]; omega)
              have c3c : q < (endsOf l).length := by rw [HEL.out]; exact c3
              obtain ⟨ad2, e2, z0⟩ := at_boolC HQr.out q c3c
              subst e2
              have hF := HF.out
              rw [show l.length - q = (l.length - (q + 1)) + 1 by omega, chkC] at hF
              have HFF := Aside0.mk hF
              clear hF HF
              generalize (endsOf l).getD q false = b at z0 HFF
              cases b with
              | true =>
                go_wp2
                go_roundg (l.length - (q + 1))
                case measure => have := HI.out; omega
                case rel => exact ⟨q + 1, by first | rfl | (congr 1; unfold wrap64; omega), ⟨by omega⟩, ⟨by have := HFF.out; simpa using this⟩, HB3⟩
              | false =>
                have HFR := Aside0.mk (show ((q : Int), (30 : Int)) = (r1, r2) by have := HFF.out; simpa using this)
                go_wp2
                go_ret2
                obtain ⟨rfl, rfl⟩ := Prod.mk.inj HFR.out
                exact ⟨rfl, HBr.out⟩
            · have c3a : decide ((q : Int) < ((endsOf l).length : Int)) = false := decide_eq_false (by rw [HEL.out]; omega)
              have c3b : decide (q < (endsOf l).length) = false := decide_eq_false (by rw [HEL.out]; omega)
              have HFR := Aside0.mk (show ((0 : Int), (0 : Int)) = (r1, r2) by have := HF.out; rw [show l.length - q = 0 by omega, chkC] at this; exact this)
              go_wp2
              go_ret2
              obtain ⟨rfl, rfl⟩ := Prod.mk.inj HFR.out
              exact ⟨rfl, HBr.out⟩
end Go.Proofs.YtjheabcffkbfkaaDoor.T
