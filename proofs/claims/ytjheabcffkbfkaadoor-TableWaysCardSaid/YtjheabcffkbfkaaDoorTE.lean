/- The walk of table.ends: from which places an end is reached. -/
import Derived.Test.YtjheabcffkbfkaaDoorTC
namespace Go.Proofs.YtjheabcffkbfkaaDoor.T
open Go.RowKit Go.Proofs.YtjheabcffkbfkaaDoorV.PrintWords Go.Proofs.YtjheabcffkbfkaaDoorV.PrintLast Go.Proofs.YtjheabcffkbfkaaDoorV.PrintMore
set_option linter.unusedVariables false
set_option linter.unusedSimpArgs false
theorem info4b : (Tryd.prog.info? 4).map (fun i => (i.zero, i.size, i.bytes)) = some (some (.bool false), 1, 1) := by kernel_rfl
theorem zero3 (w : World) : (zeroValue 3).run Tryd.prog w = .ok (.int .i64 0) w := by kernel_rfl
section
variable {P : Program} {ops : Array Oper} {rest : List Oper} {o : Oper} {a : Act} {Q : Exit → Act → World → Prop}
theorem lookup_at (w : World) (hg : o.guard = none) (m x : Operand) (hop : o.op = Op.lookup 63 m x false) (h3 : P.underlying 3 = some (.int .i64)) (h63 : P.underlying 63 = some (.map 3 3)) (hz : (zeroValue 3).run P w = .ok (.int .i64 0) w) (b : Nat) (xs : List Int)
    (hm : a.eval m = .map (some b)) (hA : IsAt P w b xs) (n : Int) (hx : a.eval x = .int .i64 n) (hw : (Lit.int .i64 n).wf = true) (hn : n ∈ xs)
    (hK : wpList P ops Q rest (a.put o.dst (.int .i64 (posOf xs n : Int))) w) : wpList P ops Q (o :: rest) a w := by
  obtain ⟨D, ho, hmp, ha⟩ := hA
  refine wpList_lookup_own_int w hg m x 63 hop 3 3 .i64 (Go.Maps.int_keyed h3) h63 h3 hz b xs.length D hm ho _ _ hx (keyN h3 n hw) ?_
  intro c hat _
  rw [ha, if_pos hn] at hat
  injection hat with h1
  injection h1 with _ h2
  rw [← h2]
  exact hK
theorem lookup_at_ok (w : World) (hg : o.guard = none) (m x : Operand) (hop : o.op = Op.lookup 63 m x true) (h3 : P.underlying 3 = some (.int .i64)) (h63 : P.underlying 63 = some (.map 3 3)) (hz : (zeroValue 3).run P w = .ok (.int .i64 0) w) (b : Nat) (xs : List Int)
    (hm : a.eval m = .map (some b)) (hA : IsAt P w b xs) (n : Int) (hx : a.eval x = .int .i64 n) (hw : (Lit.int .i64 n).wf = true) (d : Bool) (hd : decide (n ∈ xs) = d)
    (hK : ∀ c : Int, wpList P ops Q rest (a.put o.dst (.tuple #[.int .i64 c, .bool d])) w) : wpList P ops Q (o :: rest) a w := by
  obtain ⟨D, ho, hmp, ha⟩ := hA
  refine wpList_lookup_own_ok_int w hg m x 63 hop 3 3 .i64 (Go.Maps.int_keyed h3) h63 h3 hz b xs.length D hm ho _ _ hx (keyN h3 n hw) ?_
  intro c hat _
  rw [at_has ha, hd]
  exact hK c
theorem update_at (w : World) (hg : o.guard = none) (m x v : Operand) (hop : o.op = Op.mapUpdate 63 m x v) (h3 : P.underlying 3 = some (.int .i64)) (h63 : P.underlying 63 = some (.map 3 3)) (b : Nat) (xs : List Int)
    (hm : a.eval m = .map (some b)) (hA : IsAt P w b xs) (hl : xs.length < 1000) (n : Int) (hx : a.eval x = .int .i64 n) (hw : (Lit.int .i64 n).wf = true) (hn : n ∉ xs) (hv : a.eval v = .int .i64 (xs.length : Int))
    (hK : ∀ w', IsAt P w' b (xs ++ [n]) → w.grownBy w' (some b) → wpList P ops Q rest (a.put o.dst undef) w') : wpList P ops Q (o :: rest) a w := by
  obtain ⟨D, ho, hmp, ha⟩ := hA
  refine wpList_mapUpdate_own w hg m x v 63 hop 3 3 (Go.Maps.int_keyed h3) h63 (plainElem P 3) b xs.length D hm ho (by unfold maxLen; omega) _ _ _ hx hv (keyN h3 n hw) (.lit (.int .i64 (xs.length : Int))) [] (plainElem_int h3 (WalkArith.wf_i64 (by omega))) ?_
  intro w' h1 h2
  exact hK w' ⟨_, by rw [List.length_append]; exact h1, hmp.put _ _, at_put hmp ha n hn⟩ h2
end
section
variable {α : Type} {d : Kd α} {e n c : Nat} {w : World} {base : Nat} {ok : Nat → Prop} {A : Option Addr} {xs : List α}
theorem R_ptr (h : d.R e w base ok (.slice A n c) xs) (hn : 0 < n) : ∃ g, A = some ⟨g, 0, none⟩ ∧ base ≤ g ∧ ∃ cells, w.heap[g]? = some (.cells cells e (0, 0)) := by
  obtain ⟨inner, ho⟩ := Kd.R_own h
  rcases ho.2 with ⟨hv, hz⟩ | ⟨g, c', cur, hv, hb, hh, _⟩
  · injection hv with _ h1 _
    omega
  · injection hv with h1 _ _
    exact ⟨g, h1, hb, cur, hh⟩
end
theorem R_made {α : Type} {d : Kd α} {e : Nat} {w : World} {base : Nat} {ok : Nat → Prop} {v : Value} {xs : List α} (h : d.R e w base ok v xs) (hat : ∃ b, v.ownBlock = some b ∧ base ≤ b) : ∃ g c, v = .slice (some ⟨g, 0, none⟩) xs.length c ∧ base ≤ g := by
  obtain ⟨inner, ho⟩ := Kd.R_own h
  obtain ⟨b, hb, _⟩ := hat
  rcases ho.2 with ⟨rfl, _⟩ | ⟨g, c', cur, hv, hbs, _⟩
  · simp [Value.ownBlock] at hb
  · exact ⟨g, c', hv, hbs⟩
theorem mem_ids (l : List S43) (j : Nat) (hj : j < l.length) : rd_T43 l j ∈ l := by
  have : rd_T43 l (j : Int) = l[j] := by simp [rd_T43, List.getD, List.getElem?_eq_getElem hj]
  rw [this]
  exact List.getElem_mem hj
theorem leads_wf (s : S43) (h : okS s = true) (n : Int) (hn : n ∈ leadsOf s) : (Lit.int .i64 n).wf = true := by
  simp only [okS, Bool.and_eq_true] at h
  unfold leadsOf at hn
  rw [List.mem_append] at hn
  rcases hn with hn | hn
  · split at hn
    · cases hn
    · rw [List.mem_singleton] at hn; rw [hn]; exact h.1.2
  · split at hn
    · rw [List.mem_singleton] at hn; rw [hn]; exact h.2
    · cases hn
theorem leadsIn_mem (xs : List Int) : ∀ (ns : List Int), leadsIn xs ns = true → ∀ n ∈ ns, n ∈ xs
  | [], _, n, hn => by cases hn
  | m :: r, h, n, hn => by
    simp only [leadsIn, Bool.and_eq_true, decide_eq_true_eq] at h
    rcases List.mem_cons.mp hn with rfl | hn
    · exact h.1
    · exact leadsIn_mem xs r h.2 n hn

set_option maxHeartbeats 4000000 in
set_option maxRecDepth 100000 in
theorem table_ends.calls (A0 : Option Addr) (c0 : Nat) (l : List S43) (mb : Nat) (w : World) (hr0 : Kd.C k43 w A0 l.length l) (hc0 : l.length ≤ c0) (hm : IsAt Tryd.prog w mb (ids l)) (hl : l.length ≤ 100) (hok : ∀ s ∈ l, okS s = true)
    (hin : ∀ j, j < l.length → leadsIn (ids l) (leadsOf (rd_T43 l j)) = true) :
    Calls Tryd.prog 25 #[.slice A0 l.length c0, .map (some mb)] w fun e w' => ∃ v : Value, e = .returned v ∧ Kd.R Kd.bool 4 w' w.heap.size (fun _ => True) v (endsOf l) ∧ Below w.heap.size w w' := by
  have hu43 := Tryd.underlying43
  have HR := Aside0.mk hr0
  have HC := Aside0.mk hc0
  have HM := Aside0.mk hm
  have HL := Aside0.mk hl
  have HOK := Aside0.mk hok
  have HIN := Aside0.mk hin
  clear hr0 hc0 hm hok hin
  have hll : ((l.length : Int)).toNat = l.length := Int.toNat_natCast _
  have HLL := Aside0.mk hll
  clear hll
  go_enter Tryd.func25, Tryd.ntmps25
  go_wp2_with ((at_make; refine Kd.R_make Kd.bool (w0 := w) w.heap.size 4 rfl (N := 12) rfl 67 (.tmp 11) (.tmp 11) rfl (l.length : Int) rfl rfl Tryd.underlying67 (.bool false) 1 info4b rfl (by decide) (by decide) false (ok := fun _ => True) (okp := fun _ => False) rfl (fun _ h => h.elim) trivial (by omega) (by rw [HLL.out]; omega) (Below.refl _ _) (Nat.le_refl _) ?_; intro v1 w1 ho hb hg hat))
  obtain ⟨go, cc, rfl, hgo⟩ := R_made ho hat
  have HO := Aside0.mk (show Kd.bool.R 4 w1 w.heap.size (fun _ => True) (.slice (some ⟨go, 0, none⟩) l.length cc) (List.replicate l.length false) from by rw [HLL.out] at ho; rw [List.length_replicate] at ho; exact ho)
  have HB := Aside0.mk hb
  clear ho hb hg hat
  simp only [List.length_replicate, Int.toNat_natCast]
  go_loopg [15] l.length (fun kq v15 w' => ∃ i : Nat, v15 = .int .i64 (i : Int) ∧ Aside0 (i ≤ l.length ∧ kq = l.length - i) ∧ Aside0 (∃ outs : List Bool, (outs.length = l.length ∧ sweeps l (l.length - i) outs = endsOf l) ∧ Kd.bool.R 4 w' w.heap.size (fun _ => True) (.slice (some ⟨go, 0, none⟩) l.length cc) outs) ∧ Aside0 (Below w.heap.size w w'))
  case atStart => exact ⟨0, rfl, ⟨by omega⟩, ⟨_, ⟨List.length_replicate, rfl⟩, HO.out⟩, HB⟩
  case round =>
    clear HO HB
    obtain ⟨i, rfl, HI, HO, HB⟩ := hrel
    obtain ⟨w0, rfl⟩ : ∃ w0 : World, w0 = wr := ⟨_, rfl⟩
    by_cases c1 : i < l.length
    · have c1a : decide ((i : Int) < (l.length : Int)) = true := decide_eq_true (by omega)
      have c1b : decide (i < l.length) = true := decide_eq_true c1
      go_wp2
      go_loopg [19] l.length (fun kq v19 w' => ∃ i2 : Nat, v19 = .int .i64 (i2 : Int) ∧ Aside0 (i2 ≤ l.length ∧ kq = l.length - i2) ∧ Aside0 (∃ outs : List Bool, (outs.length = l.length ∧ sweeps l (l.length - (i + 1)) (sweep l (l.length - i2) i2 outs) = endsOf l) ∧ Kd.bool.R 4 w' w.heap.size (fun _ => True) (.slice (some ⟨go, 0, none⟩) l.length cc) outs) ∧ Aside0 (Below w.heap.size w w'))
      case atStart =>
        refine ⟨0, rfl, ⟨by omega⟩, ⟨?_⟩, HB⟩
        obtain ⟨outs, ⟨h1, h2⟩, h3⟩ := HO.out
        refine ⟨outs, ⟨h1, ?_⟩, h3⟩
        rw [show l.length - i = (l.length - (i + 1)) + 1 by omega, sweeps] at h2
        exact h2
      case round =>
        clear HO HB
        obtain ⟨i2, rfl, HI2, HO, HB⟩ := hrel
        obtain ⟨w2, rfl⟩ : ∃ w2 : World, w2 = wr := ⟨_, rfl⟩
        by_cases c2 : i2 < l.length
        · have c2a : decide ((i2 : Int) < (l.length : Int)) = true := decide_eq_true (by omega)
          have c2b : decide (i2 < l.length) = true := decide_eq_true c2
          obtain ⟨outs, ⟨ho1, ho2⟩, ho3⟩ := HO.out
          have HO2 := Aside0.mk ho2
          have HO3 := Aside0.mk ho3
          clear ho2 ho3 HO
          obtain ⟨ad, e1, x0, x1, x2, x3⟩ := at_T43 HR.out (i2 : Int) (by omega) (by omega)
          subst e1
          simp only [Int.toNat_natCast] at x0 x1 x2 x3
          have lift : ∀ {a : Addr} {v : Value}, w.cell? a = some v → w2.cell? a = some v := fun {a v} h => (HB.out.cell (World.block_lt_of_cell? w _ h)).trans h
          replace x0 := lift x0
          replace x1 := lift x1
          replace x2 := lift x2
          replace x3 := lift x3
          clear lift
          have HS := Aside0.mk (HOK.out _ (mem_ids l i2 c2))
          have HIN2 := Aside0.mk (HIN.out i2 c2)
          have HRX := Aside0.mk (show relax l i2 outs = (leadsOf (rd_T43 l i2)).foldl (relax1 (ids l) i2) (if (rd_T43 l i2).f1 = 90 then outs.set i2 true else outs) from rfl)
          generalize rd_T43 l (i2 : Int) = s at x0 x1 x2 x3 HS HIN2 HRX
          go_upto_region 7 with (fail)
          clear x0 x1 x2 x3
          have KB := Aside0.mk (blk_new w2 (.cells #[.int .i64 s.f0, .int .u8 s.f1, .int .i64 s.f2, .int .i64 s.f3] 43 (0, 0)))
          have n0_ := Aside0.mk (Kd.R_alloc HO3.out (.cells #[.int .i64 s.f0, .int .u8 s.f1, .int .i64 s.f2, .int .i64 s.f3] 43 (0, 0)))
          have n1_ := Aside0.mk (below_alloc HB.out (.cells #[.int .i64 s.f0, .int .u8 s.f1, .int .i64 s.f2, .int .i64 s.f3] 43 (0, 0)))
          have hgb : w.heap.size ≤ w2.heap.size := HB.out.size
          clear HO3 HB
          have HO3 := n0_
          have HB := n1_
          clear n0_ n1_
          generalize w2.alloc (.cells #[.int .i64 s.f0, .int .u8 s.f1, .int .i64 s.f2, .int .i64 s.f3] 43 (0, 0)) = w3 at KB HO3 HB ⊢
          generalize w2.heap.size = gb at KB hgb ⊢
          have k1 : w3.cell? ⟨gb, 1, none⟩ = some (.int .u8 s.f1) := (blk_cell KB.out 1).trans rfl
          go_upto_if 26 with (fail)
          go_cut [] (fun wx => Aside0 (Kd.bool.R 4 wx w.heap.size (fun _ => True) (.slice (some ⟨go, 0, none⟩) l.length cc) (if s.f1 = 90 then outs.set i2 true else outs)) ∧ Aside0 (wx.heap[gb]? = some (.cells #[.int .i64 s.f0, .int .u8 s.f1, .int .i64 s.f2, .int .i64 s.f3] 43 (0, 0))) ∧ Aside0 (Below w.heap.size w wx))
          case first =>
            by_cases c3 : s.f1 = 90
            · have c3a : (s.f1 == 90) = true := beq_iff_eq.mpr c3
              have y0 := (Kd.R_celln false HO3.out (i2 : Int) (by omega) (by omega)).1
              have y1 := (Kd.R_celln false HO3.out (i2 : Int) (by omega) (by omega)).2
              simp only [Int.toNat_natCast] at y0 y1
              have hR := (Kd.R_putg HO3.out (i2 : Int) true).1
              rw [Int.toNat_natCast] at hR
              have HR2 := Aside0.mk hR
              have C3 := Aside0.mk c3
              clear c3 hR
              go_wp2
              go_meet
              (case rel => exact ⟨⟨by rw [if_pos C3.out]; exact HR2.out⟩, ⟨blk_far KB.out (fun h => absurd (Kd.R_ne HO3.out KB.out (by decide)) (by rw [h]; simp [Value.ownBlock])) _⟩, ⟨below_set HB.out hgo⟩⟩)
            · have c3a : (s.f1 == 90) = false := beq_eq_false_iff_ne.mpr c3
              have C3 := Aside0.mk c3
              clear c3
              go_wp2
              go_meet
              (case rel => exact ⟨⟨by rw [if_neg C3.out]; exact HO3.out⟩, KB, HB⟩)
          case rest =>
            clear HO3 KB HB k1
            obtain ⟨HO3, KB, HB⟩ := hcut
            obtain ⟨wk, rfl⟩ : ∃ wk : World, wk = wc := ⟨_, rfl⟩
            have k0 : wk.cell? ⟨gb, 0, none⟩ = some (.int .i64 s.f0) := (blk_cell KB.out 0).trans rfl
            have k1 : wk.cell? ⟨gb, 1, none⟩ = some (.int .u8 s.f1) := (blk_cell KB.out 1).trans rfl
            have k2 : wk.cell? ⟨gb, 2, none⟩ = some (.int .i64 s.f2) := (blk_cell KB.out 2).trans rfl
            have k3 : wk.cell? ⟨gb, 3, none⟩ = some (.int .i64 s.f3) := (blk_cell KB.out 3).trans rfl
            generalize ho0 : (if s.f1 = 90 then outs.set i2 true else outs) = o0 at HO3 HRX
            have hol0 : o0.length = l.length := by rw [← ho0]; split <;> simp [ho1]
            clear ho0
            go_wp2_with (go_at_call 24; (with_reducible refine (table_Leads.calls s.f0 s.f1 s.f2 s.f3 (leadsOf s) _ (leads_f s)).mono ?_); rintro e w4 ⟨v0_, rfl, hq, hb⟩; obtain ⟨AL, cl, rfl⟩ := Kd.R_slice hq; have HQ := Aside0.mk (Kd.R_lower hq HB.out.size); have n0_ := Aside0.mk (Kd.R_below HO3.out hb); have n1_ := Aside0.mk (below_step HB.out hb); clear HO3 HB k0 k1 k2 k3 hq hb KB; have HO3 := n0_; have HB := n1_; clear n0_ n1_)
            have hlen := leads_len s
            go_loopg [33] 3 (fun kq v33 w' => ∃ q : Nat, v33 = .int .i64 (q : Int) ∧ Aside0 (q ≤ (leadsOf s).length ∧ kq = 3 - q) ∧ Aside0 (∃ o1 : List Bool, (o1.length = l.length ∧ ((leadsOf s).drop q).foldl (relax1 (ids l) i2) o1 = relax l i2 outs) ∧ Kd.bool.R 4 w' w.heap.size (fun _ => True) (.slice (some ⟨go, 0, none⟩) l.length cc) o1) ∧ Aside0 ((Kd.int .i64).R 3 w' w.heap.size (fun _ => True) (.slice AL (leadsOf s).length cl) (leadsOf s)) ∧ Aside0 (Below w.heap.size w w'))
            case atStart => exact ⟨0, rfl, ⟨by omega⟩, ⟨_, ⟨hol0, by rw [HRX.out]; rfl⟩, HO3.out⟩, HQ, HB⟩
            case round =>
              clear HO3 HQ HB
              obtain ⟨q, rfl, HI3, HO, HQ, HB⟩ := hrel
              by_cases c3 : q < (leadsOf s).length
              · have c3a : decide ((q : Int) < ((leadsOf s).length : Int)) = true := decide_eq_true (by omega)
                have c3b : decide (q < (leadsOf s).length) = true := decide_eq_true c3
                obtain ⟨o1, ⟨hq1, hq2⟩, hq3⟩ := HO.out
                have HQ2 := Aside0.mk hq2
                have HO3 := Aside0.mk hq3
                clear hq2 hq3 HO
                obtain ⟨ad2, e2, z0⟩ := Kd.at_int (Kd.R_reads' HQ.out).2.2 (q : Int) (by omega) (by omega)
                subst e2
                simp only [Int.toNat_natCast] at z0
                have hmem : rd (leadsOf s) (q : Int) ∈ leadsOf s := by
                  have : rd (leadsOf s) (q : Int) = (leadsOf s)[q] := by simp [rd, List.getD, List.getElem?_eq_getElem c3]
                  rw [this]; exact List.getElem_mem c3
                have hdr : (leadsOf s).drop q = rd (leadsOf s) (q : Int) :: (leadsOf s).drop (q + 1) := by
                  rw [List.drop_eq_getElem_cons c3]
                  simp [rd, List.getD, List.getElem?_eq_getElem c3]
                have hst : ((leadsOf s).drop (q + 1)).foldl (relax1 (ids l) i2) (relax1 (ids l) i2 o1 (rd (leadsOf s) (q : Int))) = relax l i2 outs := by
                  have := HQ2.out
                  rw [hdr, List.foldl_cons] at this
                  exact this
                have HST := Aside0.mk hst
                have HN := Aside0.mk (leadsIn_mem _ _ HIN2.out _ hmem)
                have HWF := Aside0.mk (leads_wf s HS.out _ hmem)
                clear hst hdr hmem HQ2
                generalize rd (leadsOf s) (q : Int) = nn at z0 HST HN HWF
                have y0 := (Kd.R_celln false HO3.out (i2 : Int) (by omega) (by omega)).1
                have y1 := (Kd.R_celln false HO3.out (i2 : Int) (by omega) (by omega)).2
                simp only [Int.toNat_natCast] at y0 y1
                have HMr := Aside0.mk (HM.out.below HB.out)
                replace y0 : wr.cell? ⟨go, i2, none⟩ = some (.bool (o1.getD i2 false)) := y0
                have hps : posOf (ids l) nn < l.length := by have := posOf_lt _ _ HN.out; simpa [ids] using this
                have HR1 := Aside0.mk (show relax1 (ids l) i2 o1 nn = o1.set i2 (o1.getD i2 false || o1.getD (posOf (ids l) nn) false) from rfl)
                have fin : ∀ b : Bool, Kd.bool.R 4 (wr.setCell ⟨go, i2, none⟩ (.bool b)) w.heap.size (fun _ => True) (.slice (some ⟨go, 0, none⟩) l.length cc) (o1.set i2 b) := fun b => by
                  have := (Kd.R_putg HO3.out (i2 : Int) b).1
                  rw [Int.toNat_natCast] at this
                  exact this
                have finl : ∀ b : Bool, (Kd.int .i64).R 3 (wr.setCell ⟨go, i2, none⟩ (.bool b)) w.heap.size (fun _ => True) (.slice (some ad2) (leadsOf s).length cl) (leadsOf s) := fun b => by
                  obtain ⟨cells, hcc⟩ := Kd.R_typed HO3.out go rfl
                  exact Kd.R_set HQ.out hcc (by decide) _ _
                have FIN := Aside0.mk fin
                have FINL := Aside0.mk finl
                clear fin finl
                generalize hb1 : o1.getD i2 false = b1 at y0 HR1
                cases b1 with
                | true =>
                  go_wp2
                  go_roundg (3 - (q + 1))
                  case measure => have := HI3.out; omega
                  case rel => exact ⟨q + 1, by first | rfl | (congr 1; unfold wrap64; omega), ⟨by omega⟩, ⟨o1.set i2 true, ⟨by rw [List.length_set]; exact hq1, by have := HST.out; rw [HR1.out] at this; simpa using this⟩, FIN.out true⟩, ⟨FINL.out true⟩, ⟨below_set HB.out hgo⟩⟩
                | false =>
                  have y2 := (Kd.R_celln false HO3.out (posOf (ids l) nn : Int) (by omega) (by omega)).1
                  simp only [Int.toNat_natCast] at y2
                  replace y2 : wr.cell? ⟨go, posOf (ids l) nn, none⟩ = some (.bool (o1.getD (posOf (ids l) nn) false)) := y2
                  generalize hb2 : o1.getD (posOf (ids l) nn) false = b2 at y2 HR1
                  have hpa : decide ((posOf (ids l) nn : Int) < (l.length : Int)) = true := decide_eq_true (by omega)
                  have hpb : decide (posOf (ids l) nn < l.length) = true := decide_eq_true hps
                  cases b2
                  all_goals
                    go_wp2_with ((try (refine gate_guard (by rfl) ?_; dsimp only)); at_lookup; refine lookup_at _ rfl _ _ rfl Tryd.underlying3 Tryd.underlying63 (zero3 _) mb (ids l) rfl HMr.out nn rfl HWF.out HN.out ?_)
                    go_roundg (3 - (q + 1))
                    case measure => have := HI3.out; omega
                    case rel =>
                      refine ⟨q + 1, by first | rfl | (congr 1; unfold wrap64; omega), ⟨by omega⟩, ⟨_, ⟨?_, ?_⟩, FIN.out _⟩, ⟨FINL.out _⟩, ⟨below_set HB.out hgo⟩⟩
                      · rw [List.length_set]; exact hq1
                      · have := HST.out; rw [HR1.out] at this; simpa using this
              · have c3a : decide ((q : Int) < ((leadsOf s).length : Int)) = false := decide_eq_false (by omega)
                have c3b : decide (q < (leadsOf s).length) = false := decide_eq_false c3
                go_wp2
                go_roundg (l.length - (i2 + 1))
                case measure => have := HI2.out; omega
                case rel =>
                  obtain ⟨o1, ⟨hq1, hq2⟩, hq3⟩ := HO.out
                  rw [List.drop_of_length_le (by omega)] at hq2
                  have hq2 : o1 = relax l i2 outs := hq2
                  refine ⟨i2 + 1, by first | rfl | (congr 1; unfold wrap64; omega), ⟨by omega⟩, ⟨o1, ⟨hq1, ?_⟩, hq3⟩, HB⟩
                  have := HO2.out
                  rw [show l.length - i2 = (l.length - (i2 + 1)) + 1 by omega, sweep, ← hq2] at this
                  exact this
        · have c2a : decide ((i2 : Int) < (l.length : Int)) = false := decide_eq_false (by omega)
          have c2b : decide (i2 < l.length) = false := decide_eq_false c2
          go_wp2
          go_roundg (l.length - (i + 1))
          case measure => have := HI.out; omega
          case rel =>
            obtain ⟨outs, ⟨h1, h2⟩, h3⟩ := HO.out
            have e : i2 = l.length := by have := HI2.out; omega
            subst e
            refine ⟨i + 1, by first | rfl | (congr 1; unfold wrap64; omega), ⟨by omega⟩, ⟨outs, ⟨h1, ?_⟩, h3⟩, HB⟩
            rw [Nat.sub_self, sweep] at h2
            exact h2
    · have c1a : decide ((i : Int) < (l.length : Int)) = false := decide_eq_false (by omega)
      have c1b : decide (i < l.length) = false := decide_eq_false c1
      go_wp2
      go_ret
      obtain ⟨outs, ⟨h1, h2⟩, h3⟩ := HO.out
      have e : i = l.length := by have := HI.out; omega
      subst e
      rw [Nat.sub_self, sweeps] at h2
      exact ⟨_, rfl, by rw [← h2]; exact h3, HB.out⟩
end Go.Proofs.YtjheabcffkbfkaaDoor.T
