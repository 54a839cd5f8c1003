/- The plain law of guichetlaw16.MoneyRight: the program's and the document's 'right' agree on every configuration; what the chapter's example gives; what the configuration of few numbers is. -/
import Derived.Test.YtjheabcffkbfkaaDoorX7
import Derived.Test.YtjheabcffkbfkaaDoorX6
import Derived.Test.YtjheabcffkbfkaaDoorXR
import Derived.Lib.Strings
namespace Go.Proofs.YtjheabcffkbfkaaDoor.X
open Go.RowKit Go.Proofs.YtjheabcffkbfkaaDoorW.PrintWords Go.Proofs.YtjheabcffkbfkaaDoorW.PrintLast Go.Proofs.YtjheabcffkbfkaaDoorW.PrintMore
set_option linter.unusedVariables false
set_option linter.unusedSimpArgs false
theorem wl0 : wrap64 (0 + 1) = 1 := by unfold wrap64; omega
theorem wl1 : wrap64 (1 + 1) = 2 := by unfold wrap64; omega
theorem wl2 : wrap64 (2 + 1) = 3 := by unfold wrap64; omega
theorem wl3 : wrap64 (3 + 1) = 4 := by unfold wrap64; omega
theorem wr1 (i : Nat) (h : i ≤ 1000) : wrap64 ((i : Int) + 1) = ((i + 1 : Nat) : Int) := by
  unfold wrap64; omega
theorem dig (s : ByteArray) (hs : s.size ≤ 100) : ∀ d i : Nat, s.size - i = d → i ≤ s.size → ∃ b, Ev (fun k => frame_Digits.l0 k s (s.size : Int) (i : Int)) b ∧ Ev (fun k => guichetref1_AllDigits.l0 k s (i : Int)) b := by
  intro d
  induction d with
  | zero =>
    intro i hd hi
    refine ⟨true, Ev.step (f := fun _ => some true) (fun k => ?_) (Ev.now _), Ev.step (f := fun _ => some true) (fun k => ?_) (Ev.now _)⟩
    · rw [frame_Digits.l0, if_neg (by omega)]
    · rw [guichetref1_AllDigits.l0, if_neg (by omega)]
  | succ d ih =>
    intro i hd hi
    by_cases h1 : bt s (i : Int) < 48
    · refine ⟨false, Ev.step (f := fun _ => some false) (fun k => ?_) (Ev.now _), Ev.step (f := fun _ => some false) (fun k => ?_) (Ev.now _)⟩
      · rw [frame_Digits.l0, if_pos (by omega), if_pos (by omega), if_pos (by omega), if_pos h1]
      · rw [guichetref1_AllDigits.l0, if_pos (by omega), if_pos (by omega), if_pos h1]
    by_cases h2 : bt s (i : Int) > 57
    · refine ⟨false, Ev.step (f := fun _ => some false) (fun k => ?_) (Ev.now _), Ev.step (f := fun _ => some false) (fun k => ?_) (Ev.now _)⟩
      · rw [frame_Digits.l0, if_pos (by omega), if_pos (by omega), if_pos (by omega), if_neg h1, if_pos h2]
      · rw [guichetref1_AllDigits.l0, if_pos (by omega), if_pos (by omega), if_neg h1, if_pos h2]
    obtain ⟨b, e1, e2⟩ := ih (i + 1) (by omega) (by omega)
    refine ⟨b, Ev.step (fun k => ?_) e1, Ev.step (fun k => ?_) e2⟩
    · rw [frame_Digits.l0, if_pos (by omega), if_pos (by omega), if_pos (by omega), if_neg h1, if_neg h2, wr1 i (by omega)]
    · rw [guichetref1_AllDigits.l0, if_pos (by omega), if_pos (by omega), if_neg h1, if_neg h2, wr1 i (by omega)]
theorem seen_iff (t1 : List ByteArray) (j : Nat) (hj : j ≤ t1.length) (p : ByteArray) : seenIn (t1.take j) p = true ↔ ∃ q : Nat, q < j ∧ (rdOf ByteArray.empty t1 (q : Int)).toList = p.toList := by
  unfold seenIn
  rw [List.any_eq_true]
  constructor
  · rintro ⟨x, hx, he⟩
    obtain ⟨q, hq, rfl⟩ := List.mem_iff_getElem.mp hx
    rw [List.length_take] at hq
    refine ⟨q, by omega, ?_⟩
    have : rdOf ByteArray.empty t1 (q : Int) = (t1.take j)[q] := by
      simp [rdOf, List.getD, List.getElem?_eq_getElem (show q < t1.length by omega)]
    rw [this, Lib.toList_data, Lib.toList_data, of_decide_eq_true he]
  · rintro ⟨q, hq, he⟩
    have hlt : q < t1.length := by omega
    refine ⟨t1[q], ?_, ?_⟩
    · have : (t1.take j)[q]'(by rw [List.length_take]; omega) = t1[q] := by simp
      rw [← this]
      exact List.getElem_mem _
    · have : rdOf ByteArray.empty t1 (q : Int) = t1[q] := by simp [rdOf, List.getD, List.getElem?_eq_getElem hlt]
      rw [this, Lib.toList_data, Lib.toList_data] at he
      exact decide_eq_true (Array.toList_inj.mp he)
section
variable (t0 : List S31) (t1 : List ByteArray) (t2 : List Int) (m a4 : Int)
theorem j4_true (x6 : Int) : Ev (fun k => CfR.j4 k x6 true t0 t1 t2 m a4) false := Ev.step (f := fun _ => some false) (fun k => by rw [CfR.j4, if_pos rfl]) (Ev.now _)
theorem dupl (j : Nat) (hj : j < t1.length) (hn : t1.length ≤ 100) : ∀ d i : Nat, j - i = d → i ≤ j →
    ((∃ q, i ≤ q ∧ q < j ∧ (rdOf ByteArray.empty t1 (q : Int)).toList = (rdOf ByteArray.empty t1 (j : Int)).toList) ∧ Ev (fun k => CfR.l3 k (j : Int) (i : Int) t0 t1 t2 m a4) false) ∨
    ((∀ q, i ≤ q → q < j → ¬ (rdOf ByteArray.empty t1 (q : Int)).toList = (rdOf ByteArray.empty t1 (j : Int)).toList) ∧ ∀ b, Ev (fun k => CfR.l2 k ((j + 1 : Nat) : Int) t0 t1 t2 m a4) b → Ev (fun k => CfR.l3 k (j : Int) (i : Int) t0 t1 t2 m a4) b) := by
  intro d
  induction d with
  | zero =>
    intro i hd hi
    refine .inr ⟨fun q h1 h2 => by omega, fun b hb => Ev.step (fun k => ?_) hb⟩
    rw [CfR.l3, if_neg (by omega), wr1 j (by omega)]
  | succ d ih =>
    intro i hd hi
    by_cases he : (rdOf ByteArray.empty t1 (i : Int)).toList = (rdOf ByteArray.empty t1 (j : Int)).toList
    · refine .inl ⟨⟨i, Nat.le_refl _, by omega, he⟩, Ev.step (f := fun _ => some false) (fun k => ?_) (Ev.now _)⟩
      rw [CfR.l3, if_pos (by omega), if_pos (by omega), if_pos (by omega), if_pos (by omega), if_pos (by omega), if_pos he]
    · have hs : ∀ k, CfR.l3 (k + 1) (j : Int) (i : Int) t0 t1 t2 m a4 = CfR.l3 k (j : Int) ((i + 1 : Nat) : Int) t0 t1 t2 m a4 := fun k => by
        rw [CfR.l3, if_pos (by omega), if_pos (by omega), if_pos (by omega), if_pos (by omega), if_pos (by omega), if_neg he, wr1 i (by omega)]
      rcases ih (i + 1) (by omega) (by omega) with ⟨⟨q, h1, h2, h3⟩, h4⟩ | ⟨h1, h2⟩
      · exact .inl ⟨⟨q, by omega, h2, h3⟩, Ev.step hs h4⟩
      · refine .inr ⟨fun q h3 h4 => ?_, fun b hb => Ev.step hs (h2 b hb)⟩
        by_cases hq : q = i
        · subst hq; exact he
        · exact h1 q (by omega) h4
theorem pans (hn : t1.length ≤ 64) (h2 : t2.length = t1.length) : ∀ d j : Nat, t1.length - j = d → j ≤ t1.length → ∃ b, Ev (fun k => money_Right.l1 k j t1 t2) b ∧ Ev (fun k => CfR.l2 k (j : Int) t0 t1 t2 m a4) b := by
  intro d
  induction d with
  | zero =>
    intro j hd hj
    refine ⟨true, Ev.step (f := fun _ => some true) (fun k => ?_) (Ev.now _), Ev.step (f := fun _ => some true) (fun k => ?_) (Ev.now _)⟩
    · rw [money_Right.l1, if_neg (by omega)]
    · rw [CfR.l2, if_neg (by omega)]
  | succ d ih =>
    intro j hd hj
    obtain ⟨b', i1, i2⟩ := ih (j + 1) (by omega) (by omega)
    have hlt : j < t1.length := by omega
    have hj4 := j4_true t0 t1 t2 m a4 (j : Int)
    have panF : ∀ b, Ev (fun k => guichetref1_Pan.f k (rdOf ByteArray.empty t1 (j : Int))) b → ∀ r, Ev (fun k => if b = true then (if (j : Int) < (t2.length : Int) then (if (rd t2 j) < 0 then (CfR.j4 k j true t0 t1 t2 m a4) else (CfR.j4 k j (decide ((rd t2 j) > 1000000000000)) t0 t1 t2 m a4)) else (none)) else (CfR.j4 k j true t0 t1 t2 m a4)) r → Ev (fun k => CfR.l2 k (j : Int) t0 t1 t2 m a4) r := by
      intro b hb r hr
      refine Ev.step (f := fun k => (guichetref1_Pan.f k (rdOf ByteArray.empty t1 (j : Int))).bind fun t170 => (if t170 = true then (if (j : Int) < (t2.length : Int) then (if (rd t2 j) < 0 then (CfR.j4 k j true t0 t1 t2 m a4) else (CfR.j4 k j (decide ((rd t2 j) > 1000000000000)) t0 t1 t2 m a4)) else (none)) else (CfR.j4 k j true t0 t1 t2 m a4))) (fun k => ?_) (Ev.bind (f := fun k t170 => (if t170 = true then (if (j : Int) < (t2.length : Int) then (if (rd t2 j) < 0 then (CfR.j4 k j true t0 t1 t2 m a4) else (CfR.j4 k j (decide ((rd t2 j) > 1000000000000)) t0 t1 t2 m a4)) else (none)) else (CfR.j4 k j true t0 t1 t2 m a4))) hb hr)
      rw [CfR.l2, if_pos (by omega), if_pos (by omega)]
    have panNo : Ev (fun k => guichetref1_Pan.f k (rdOf ByteArray.empty t1 (j : Int))) false → Ev (fun k => CfR.l2 k (j : Int) t0 t1 t2 m a4) false := fun h => panF false h false (Ev.congr (fun k => if_neg (by decide)) hj4)
    by_cases c1 : (rdOf ByteArray.empty t1 (j : Int)).size < 1
    · refine ⟨false, Ev.step (f := fun _ => some false) (fun k => ?_) (Ev.now _), panNo (Ev.congr (fun k => ?_) (Ev.now false))⟩
      · rw [money_Right.l1, if_pos hlt, if_pos c1]
      · rw [guichetref1_Pan.f, if_neg (by omega)]
    by_cases c2 : 19 < (rdOf ByteArray.empty t1 (j : Int)).size
    · refine ⟨false, Ev.step (f := fun _ => some false) (fun k => ?_) (Ev.now _), panNo (Ev.congr (fun k => ?_) (Ev.now false))⟩
      · rw [money_Right.l1, if_pos hlt, if_neg c1, if_pos c2]
      · rw [guichetref1_Pan.f, if_pos (by omega), if_neg (by omega)]
    obtain ⟨b, e1, e2⟩ := dig (rdOf ByteArray.empty t1 (j : Int)) (by omega) _ 0 rfl (by omega)
    have e1 : Ev (fun k => frame_Digits.f k (rdOf ByteArray.empty t1 (j : Int))) b := e1
    have e2 : Ev (fun k => guichetref1_Pan.f k (rdOf ByteArray.empty t1 (j : Int))) b := by
      refine Ev.congr (f := fun k => (guichetref1_AllDigits.f k (rdOf ByteArray.empty t1 (j : Int))).bind fun t => some t) (fun k => ?_) (Ev.bind (f := fun _ t => some t) (show Ev (fun k => guichetref1_AllDigits.f k _) b from e2) (Ev.now b))
      rw [guichetref1_Pan.f, if_pos (by omega), if_pos (by omega)]
    have mR : ∀ r, Ev (fun k => if b = true then (if seenIn (t1.take j) (rdOf ByteArray.empty t1 j) = true then some false else if rd t2 j < 0 then some false else if 1000000000000 < rd t2 j then some false else money_Right.l1 k (j + 1) t1 t2) else some false) r → Ev (fun k => money_Right.l1 k j t1 t2) r := by
      intro r hr
      refine Ev.step (f := fun k => (frame_Digits.f k (rdOf ByteArray.empty t1 j)).bind fun d => if d = true then (if seenIn (t1.take j) (rdOf ByteArray.empty t1 j) = true then some false else if rd t2 j < 0 then some false else if 1000000000000 < rd t2 j then some false else money_Right.l1 k (j + 1) t1 t2) else some false) (fun k => ?_) (Ev.bind (f := fun k d => if d = true then (if seenIn (t1.take j) (rdOf ByteArray.empty t1 j) = true then some false else if rd t2 j < 0 then some false else if 1000000000000 < rd t2 j then some false else money_Right.l1 k (j + 1) t1 t2) else some false) e1 hr)
      rw [money_Right.l1, if_pos hlt, if_neg c1, if_neg c2]
    cases b with
    | false => exact ⟨false, mR false (Ev.congr (fun k => if_neg (by decide)) (Ev.now false)), panNo e2⟩
    | true =>
      by_cases c3 : rd t2 (j : Int) < 0
      · refine ⟨false, mR false ?_, panF true e2 false ?_⟩
        · refine Ev.congr (fun k => ?_) (Ev.now false)
          rw [if_pos rfl, if_pos c3]
          split <;> rfl
        · refine Ev.congr (fun k => ?_) hj4
          rw [if_pos rfl, if_pos (by omega), if_pos c3]
      by_cases c4 : rd t2 (j : Int) > 1000000000000
      · refine ⟨false, mR false ?_, panF true e2 false ?_⟩
        · refine Ev.congr (fun k => ?_) (Ev.now false)
          rw [if_pos rfl, if_neg c3, if_pos (show (1000000000000 : Int) < rd t2 j from c4)]
          split <;> rfl
        · refine Ev.congr (fun k => ?_) hj4
          rw [if_pos rfl, if_pos (by omega), if_neg c3, decide_eq_true c4]
      have panY : ∀ r, Ev (fun k => CfR.l3 k (j : Int) ((0 : Nat) : Int) t0 t1 t2 m a4) r → Ev (fun k => CfR.l2 k (j : Int) t0 t1 t2 m a4) r := by
        intro r hr
        refine panF true e2 r (Ev.congr (f := fun k => CfR.j4 k (j : Int) false t0 t1 t2 m a4) (fun k => ?_) (Ev.step (fun k => ?_) hr))
        · rw [if_pos rfl, if_pos (by omega), if_neg c3, decide_eq_false c4]
        · rw [CfR.j4, if_neg (by decide)]; rfl
      rcases dupl t0 t1 t2 m a4 j hlt (by omega) j 0 rfl (by omega) with ⟨⟨q, _, h4, h5⟩, h6⟩ | ⟨h3, h4⟩
      · refine ⟨false, mR false ?_, panY false h6⟩
        refine Ev.congr (fun k => ?_) (Ev.now false)
        rw [if_pos rfl, if_pos ((seen_iff t1 j (by omega) _).mpr ⟨q, h4, h5⟩)]
      · refine ⟨b', mR b' (Ev.congr (fun k => ?_) i1), panY b' (h4 b' i2)⟩
        rw [if_pos rfl, if_neg (fun h => by obtain ⟨q, h5, h6⟩ := (seen_iff t1 j (by omega) _).mp h; exact h3 q (Nat.zero_le _) h5 h6), if_neg c3, if_neg (show ¬ (1000000000000 : Int) < rd t2 j from c4)]

theorem cassE3 (x : S31) (j : Int) (h0 : 0 ≤ j) (hj : j < (t0.length : Int)) (hx : rd_T31 t0 j = x) (b : Bool) (hb : Ev (fun k => money_cassettes.l0 k 4 x.f0.f0 x.f0.f1 x.f0.f2 x.f0.f3 x.f1.f0 x.f1.f1 x.f1.f2 x.f1.f3 x.f2.f0 x.f2.f1 x.f2.f2 x.f2.f3 x.f3.f0 x.f3.f1 x.f3.f2 x.f3.f3) b) (r : Bool) (hr : b = false → Ev (fun k => CfR.l1 k j 4 t0 t1 t2 m a4) false) (hr' : b = true → Ev (fun k => CfR.l1 k j 4 t0 t1 t2 m a4) r) :
    ∃ c, Ev (fun k => money_cassettes.l0 k 3 x.f0.f0 x.f0.f1 x.f0.f2 x.f0.f3 x.f1.f0 x.f1.f1 x.f1.f2 x.f1.f3 x.f2.f0 x.f2.f1 x.f2.f2 x.f2.f3 x.f3.f0 x.f3.f1 x.f3.f2 x.f3.f3) c ∧ (c = false → Ev (fun k => CfR.l1 k j 3 t0 t1 t2 m a4) false) ∧ (c = true → Ev (fun k => CfR.l1 k j 3 t0 t1 t2 m a4) r) := by
  have g1 : ∀ k, money_cassettes.l0 (k + 1) 3 x.f0.f0 x.f0.f1 x.f0.f2 x.f0.f3 x.f1.f0 x.f1.f1 x.f1.f2 x.f1.f3 x.f2.f0 x.f2.f1 x.f2.f2 x.f2.f3 x.f3.f0 x.f3.f1 x.f3.f2 x.f3.f3 = (if x.f3.f0 < 1 then (some false) else (if x.f3.f0 > 100000 then (some false) else (if x.f3.f1 < 0 then (some false) else (if x.f3.f1 > 10000 then (some false) else (if x.f3.f2 = 0 then (if x.f3.f3 = 0 then (money_cassettes.l0 k 4 x.f0.f0 x.f0.f1 x.f0.f2 x.f0.f3 x.f1.f0 x.f1.f1 x.f1.f2 x.f1.f3 x.f2.f0 x.f2.f1 x.f2.f2 x.f2.f3 x.f3.f0 x.f3.f1 x.f3.f2 x.f3.f3) else (some false)) else (some false)))))) := fun k => by
    rw [money_cassettes.l0, if_pos (by decide), if_neg (by decide), if_neg (by decide), if_neg (by decide), if_pos (by decide), wl3]
  have g2 : ∀ k, CfR.l1 (k + 1) j 3 t0 t1 t2 m a4 = (if x.f3.f0 < 1 then (some false) else (if x.f3.f0 > 100000 then (some false) else (if x.f3.f1 < 0 then (some false) else (if x.f3.f1 > 10000 then (some false) else (if x.f3.f2 = 0 then (if x.f3.f3 = 0 then (CfR.l1 k j 4 t0 t1 t2 m a4) else (some false)) else (some false)))))) := fun k => by
    rw [CfR.l1, if_pos (by decide), if_pos h0, if_pos hj, if_neg (by decide), if_neg (by decide), if_neg (by decide), if_pos (by decide), hx, wl3]
  by_cases c1 : x.f3.f0 < 1
  · exact ⟨false, Ev.step (f := fun _ => some false) (fun k => by rw [g1, if_pos c1]) (Ev.now _), fun _ => Ev.step (f := fun _ => some false) (fun k => by rw [g2, if_pos c1]) (Ev.now _), fun h => by cases h⟩
  by_cases c2 : x.f3.f0 > 100000
  · exact ⟨false, Ev.step (f := fun _ => some false) (fun k => by rw [g1, if_neg c1, if_pos c2]) (Ev.now _), fun _ => Ev.step (f := fun _ => some false) (fun k => by rw [g2, if_neg c1, if_pos c2]) (Ev.now _), fun h => by cases h⟩
  by_cases c3 : x.f3.f1 < 0
  · exact ⟨false, Ev.step (f := fun _ => some false) (fun k => by rw [g1, if_neg c1, if_neg c2, if_pos c3]) (Ev.now _), fun _ => Ev.step (f := fun _ => some false) (fun k => by rw [g2, if_neg c1, if_neg c2, if_pos c3]) (Ev.now _), fun h => by cases h⟩
  by_cases c4 : x.f3.f1 > 10000
  · exact ⟨false, Ev.step (f := fun _ => some false) (fun k => by rw [g1, if_neg c1, if_neg c2, if_neg c3, if_pos c4]) (Ev.now _), fun _ => Ev.step (f := fun _ => some false) (fun k => by rw [g2, if_neg c1, if_neg c2, if_neg c3, if_pos c4]) (Ev.now _), fun h => by cases h⟩
  by_cases c5 : x.f3.f2 = 0
  · by_cases c6 : x.f3.f3 = 0
    · refine ⟨b, Ev.step (fun k => by rw [g1, if_neg c1, if_neg c2, if_neg c3, if_neg c4, if_pos c5, if_pos c6]) hb, fun h => Ev.step (fun k => by rw [g2, if_neg c1, if_neg c2, if_neg c3, if_neg c4, if_pos c5, if_pos c6]) (hr h), fun h => Ev.step (fun k => by rw [g2, if_neg c1, if_neg c2, if_neg c3, if_neg c4, if_pos c5, if_pos c6]) (hr' h)⟩
    · exact ⟨false, Ev.step (f := fun _ => some false) (fun k => by rw [g1, if_neg c1, if_neg c2, if_neg c3, if_neg c4, if_pos c5, if_neg c6]) (Ev.now _), fun _ => Ev.step (f := fun _ => some false) (fun k => by rw [g2, if_neg c1, if_neg c2, if_neg c3, if_neg c4, if_pos c5, if_neg c6]) (Ev.now _), fun h => by cases h⟩
  · exact ⟨false, Ev.step (f := fun _ => some false) (fun k => by rw [g1, if_neg c1, if_neg c2, if_neg c3, if_neg c4, if_neg c5]) (Ev.now _), fun _ => Ev.step (f := fun _ => some false) (fun k => by rw [g2, if_neg c1, if_neg c2, if_neg c3, if_neg c4, if_neg c5]) (Ev.now _), fun h => by cases h⟩

theorem cassE2 (x : S31) (j : Int) (h0 : 0 ≤ j) (hj : j < (t0.length : Int)) (hx : rd_T31 t0 j = x) (b : Bool) (hb : Ev (fun k => money_cassettes.l0 k 3 x.f0.f0 x.f0.f1 x.f0.f2 x.f0.f3 x.f1.f0 x.f1.f1 x.f1.f2 x.f1.f3 x.f2.f0 x.f2.f1 x.f2.f2 x.f2.f3 x.f3.f0 x.f3.f1 x.f3.f2 x.f3.f3) b) (r : Bool) (hr : b = false → Ev (fun k => CfR.l1 k j 3 t0 t1 t2 m a4) false) (hr' : b = true → Ev (fun k => CfR.l1 k j 3 t0 t1 t2 m a4) r) :
    ∃ c, Ev (fun k => money_cassettes.l0 k 2 x.f0.f0 x.f0.f1 x.f0.f2 x.f0.f3 x.f1.f0 x.f1.f1 x.f1.f2 x.f1.f3 x.f2.f0 x.f2.f1 x.f2.f2 x.f2.f3 x.f3.f0 x.f3.f1 x.f3.f2 x.f3.f3) c ∧ (c = false → Ev (fun k => CfR.l1 k j 2 t0 t1 t2 m a4) false) ∧ (c = true → Ev (fun k => CfR.l1 k j 2 t0 t1 t2 m a4) r) := by
  have g1 : ∀ k, money_cassettes.l0 (k + 1) 2 x.f0.f0 x.f0.f1 x.f0.f2 x.f0.f3 x.f1.f0 x.f1.f1 x.f1.f2 x.f1.f3 x.f2.f0 x.f2.f1 x.f2.f2 x.f2.f3 x.f3.f0 x.f3.f1 x.f3.f2 x.f3.f3 = (if x.f2.f0 < 1 then (some false) else (if x.f2.f0 > 100000 then (some false) else (if x.f2.f1 < 0 then (some false) else (if x.f2.f1 > 10000 then (some false) else (if x.f2.f2 = 0 then (if x.f2.f3 = 0 then (money_cassettes.l0 k 3 x.f0.f0 x.f0.f1 x.f0.f2 x.f0.f3 x.f1.f0 x.f1.f1 x.f1.f2 x.f1.f3 x.f2.f0 x.f2.f1 x.f2.f2 x.f2.f3 x.f3.f0 x.f3.f1 x.f3.f2 x.f3.f3) else (some false)) else (some false)))))) := fun k => by
    rw [money_cassettes.l0, if_pos (by decide), if_neg (by decide), if_neg (by decide), if_pos (by decide), wl2]
  have g2 : ∀ k, CfR.l1 (k + 1) j 2 t0 t1 t2 m a4 = (if x.f2.f0 < 1 then (some false) else (if x.f2.f0 > 100000 then (some false) else (if x.f2.f1 < 0 then (some false) else (if x.f2.f1 > 10000 then (some false) else (if x.f2.f2 = 0 then (if x.f2.f3 = 0 then (CfR.l1 k j 3 t0 t1 t2 m a4) else (some false)) else (some false)))))) := fun k => by
    rw [CfR.l1, if_pos (by decide), if_pos h0, if_pos hj, if_neg (by decide), if_neg (by decide), if_pos (by decide), hx, wl2]
  by_cases c1 : x.f2.f0 < 1
  · exact ⟨false, Ev.step (f := fun _ => some false) (fun k => by rw [g1, if_pos c1]) (Ev.now _), fun _ => Ev.step (f := fun _ => some false) (fun k => by rw [g2, if_pos c1]) (Ev.now _), fun h => by cases h⟩
  by_cases c2 : x.f2.f0 > 100000
  · exact ⟨false, Ev.step (f := fun _ => some false) (fun k => by rw [g1, if_neg c1, if_pos c2]) (Ev.now _), fun _ => Ev.step (f := fun _ => some false) (fun k => by rw [g2, if_neg c1, if_pos c2]) (Ev.now _), fun h => by cases h⟩
  by_cases c3 : x.f2.f1 < 0
  · exact ⟨false, Ev.step (f := fun _ => some false) (fun k => by rw [g1, if_neg c1, if_neg c2, if_pos c3]) (Ev.now _), fun _ => Ev.step (f := fun _ => some false) (fun k => by rw [g2, if_neg c1, if_neg c2, if_pos c3]) (Ev.now _), fun h => by cases h⟩
  by_cases c4 : x.f2.f1 > 10000
  · exact ⟨false, Ev.step (f := fun _ => some false) (fun k => by rw [g1, if_neg c1, if_neg c2, if_neg c3, if_pos c4]) (Ev.now _), fun _ => Ev.step (f := fun _ => some false) (fun k => by rw [g2, if_neg c1, if_neg c2, if_neg c3, if_pos c4]) (Ev.now _), fun h => by cases h⟩
  by_cases c5 : x.f2.f2 = 0
  · by_cases c6 : x.f2.f3 = 0
    · refine ⟨b, Ev.step (fun k => by rw [g1, if_neg c1, if_neg c2, if_neg c3, if_neg c4, if_pos c5, if_pos c6]) hb, fun h => Ev.step (fun k => by rw [g2, if_neg c1, if_neg c2, if_neg c3, if_neg c4, if_pos c5, if_pos c6]) (hr h), fun h => Ev.step (fun k => by rw [g2, if_neg c1, if_neg c2, if_neg c3, if_neg c4, if_pos c5, if_pos c6]) (hr' h)⟩
    · exact ⟨false, Ev.step (f := fun _ => some false) (fun k => by rw [g1, if_neg c1, if_neg c2, if_neg c3, if_neg c4, if_pos c5, if_neg c6]) (Ev.now _), fun _ => Ev.step (f := fun _ => some false) (fun k => by rw [g2, if_neg c1, if_neg c2, if_neg c3, if_neg c4, if_pos c5, if_neg c6]) (Ev.now _), fun h => by cases h⟩
  · exact ⟨false, Ev.step (f := fun _ => some false) (fun k => by rw [g1, if_neg c1, if_neg c2, if_neg c3, if_neg c4, if_neg c5]) (Ev.now _), fun _ => Ev.step (f := fun _ => some false) (fun k => by rw [g2, if_neg c1, if_neg c2, if_neg c3, if_neg c4, if_neg c5]) (Ev.now _), fun h => by cases h⟩

theorem cassE1 (x : S31) (j : Int) (h0 : 0 ≤ j) (hj : j < (t0.length : Int)) (hx : rd_T31 t0 j = x) (b : Bool) (hb : Ev (fun k => money_cassettes.l0 k 2 x.f0.f0 x.f0.f1 x.f0.f2 x.f0.f3 x.f1.f0 x.f1.f1 x.f1.f2 x.f1.f3 x.f2.f0 x.f2.f1 x.f2.f2 x.f2.f3 x.f3.f0 x.f3.f1 x.f3.f2 x.f3.f3) b) (r : Bool) (hr : b = false → Ev (fun k => CfR.l1 k j 2 t0 t1 t2 m a4) false) (hr' : b = true → Ev (fun k => CfR.l1 k j 2 t0 t1 t2 m a4) r) :
    ∃ c, Ev (fun k => money_cassettes.l0 k 1 x.f0.f0 x.f0.f1 x.f0.f2 x.f0.f3 x.f1.f0 x.f1.f1 x.f1.f2 x.f1.f3 x.f2.f0 x.f2.f1 x.f2.f2 x.f2.f3 x.f3.f0 x.f3.f1 x.f3.f2 x.f3.f3) c ∧ (c = false → Ev (fun k => CfR.l1 k j 1 t0 t1 t2 m a4) false) ∧ (c = true → Ev (fun k => CfR.l1 k j 1 t0 t1 t2 m a4) r) := by
  have g1 : ∀ k, money_cassettes.l0 (k + 1) 1 x.f0.f0 x.f0.f1 x.f0.f2 x.f0.f3 x.f1.f0 x.f1.f1 x.f1.f2 x.f1.f3 x.f2.f0 x.f2.f1 x.f2.f2 x.f2.f3 x.f3.f0 x.f3.f1 x.f3.f2 x.f3.f3 = (if x.f1.f0 < 1 then (some false) else (if x.f1.f0 > 100000 then (some false) else (if x.f1.f1 < 0 then (some false) else (if x.f1.f1 > 10000 then (some false) else (if x.f1.f2 = 0 then (if x.f1.f3 = 0 then (money_cassettes.l0 k 2 x.f0.f0 x.f0.f1 x.f0.f2 x.f0.f3 x.f1.f0 x.f1.f1 x.f1.f2 x.f1.f3 x.f2.f0 x.f2.f1 x.f2.f2 x.f2.f3 x.f3.f0 x.f3.f1 x.f3.f2 x.f3.f3) else (some false)) else (some false)))))) := fun k => by
    rw [money_cassettes.l0, if_pos (by decide), if_neg (by decide), if_pos (by decide), wl1]
  have g2 : ∀ k, CfR.l1 (k + 1) j 1 t0 t1 t2 m a4 = (if x.f1.f0 < 1 then (some false) else (if x.f1.f0 > 100000 then (some false) else (if x.f1.f1 < 0 then (some false) else (if x.f1.f1 > 10000 then (some false) else (if x.f1.f2 = 0 then (if x.f1.f3 = 0 then (CfR.l1 k j 2 t0 t1 t2 m a4) else (some false)) else (some false)))))) := fun k => by
    rw [CfR.l1, if_pos (by decide), if_pos h0, if_pos hj, if_neg (by decide), if_pos (by decide), hx, wl1]
  by_cases c1 : x.f1.f0 < 1
  · exact ⟨false, Ev.step (f := fun _ => some false) (fun k => by rw [g1, if_pos c1]) (Ev.now _), fun _ => Ev.step (f := fun _ => some false) (fun k => by rw [g2, if_pos c1]) (Ev.now _), fun h => by cases h⟩
  by_cases c2 : x.f1.f0 > 100000
  · exact ⟨false, Ev.step (f := fun _ => some false) (fun k => by rw [g1, if_neg c1, if_pos c2]) (Ev.now _), fun _ => Ev.step (f := fun _ => some false) (fun k => by rw [g2, if_neg c1, if_pos c2]) (Ev.now _), fun h => by cases h⟩
  by_cases c3 : x.f1.f1 < 0
  · exact ⟨false, Ev.step (f := fun _ => some false) (fun k => by rw [g1, if_neg c1, if_neg c2, if_pos c3]) (Ev.now _), fun _ => Ev.step (f := fun _ => some false) (fun k => by rw [g2, if_neg c1, if_neg c2, if_pos c3]) (Ev.now _), fun h => by cases h⟩
  by_cases c4 : x.f1.f1 > 10000
  · exact ⟨false, Ev.step (f := fun _ => some false) (fun k => by rw [g1, if_neg c1, if_neg c2, if_neg c3, if_pos c4]) (Ev.now _), fun _ => Ev.step (f := fun _ => some false) (fun k => by rw [g2, if_neg c1, if_neg c2, if_neg c3, if_pos c4]) (Ev.now _), fun h => by cases h⟩
  by_cases c5 : x.f1.f2 = 0
  · by_cases c6 : x.f1.f3 = 0
    · refine ⟨b, Ev.step (fun k => by rw [g1, if_neg c1, if_neg c2, if_neg c3, if_neg c4, if_pos c5, if_pos c6]) hb, fun h => Ev.step (fun k => by rw [g2, if_neg c1, if_neg c2, if_neg c3, if_neg c4, if_pos c5, if_pos c6]) (hr h), fun h => Ev.step (fun k => by rw [g2, if_neg c1, if_neg c2, if_neg c3, if_neg c4, if_pos c5, if_pos c6]) (hr' h)⟩
    · exact ⟨false, Ev.step (f := fun _ => some false) (fun k => by rw [g1, if_neg c1, if_neg c2, if_neg c3, if_neg c4, if_pos c5, if_neg c6]) (Ev.now _), fun _ => Ev.step (f := fun _ => some false) (fun k => by rw [g2, if_neg c1, if_neg c2, if_neg c3, if_neg c4, if_pos c5, if_neg c6]) (Ev.now _), fun h => by cases h⟩
  · exact ⟨false, Ev.step (f := fun _ => some false) (fun k => by rw [g1, if_neg c1, if_neg c2, if_neg c3, if_neg c4, if_neg c5]) (Ev.now _), fun _ => Ev.step (f := fun _ => some false) (fun k => by rw [g2, if_neg c1, if_neg c2, if_neg c3, if_neg c4, if_neg c5]) (Ev.now _), fun h => by cases h⟩

theorem cassE0 (x : S31) (j : Int) (h0 : 0 ≤ j) (hj : j < (t0.length : Int)) (hx : rd_T31 t0 j = x) (b : Bool) (hb : Ev (fun k => money_cassettes.l0 k 1 x.f0.f0 x.f0.f1 x.f0.f2 x.f0.f3 x.f1.f0 x.f1.f1 x.f1.f2 x.f1.f3 x.f2.f0 x.f2.f1 x.f2.f2 x.f2.f3 x.f3.f0 x.f3.f1 x.f3.f2 x.f3.f3) b) (r : Bool) (hr : b = false → Ev (fun k => CfR.l1 k j 1 t0 t1 t2 m a4) false) (hr' : b = true → Ev (fun k => CfR.l1 k j 1 t0 t1 t2 m a4) r) :
    ∃ c, Ev (fun k => money_cassettes.l0 k 0 x.f0.f0 x.f0.f1 x.f0.f2 x.f0.f3 x.f1.f0 x.f1.f1 x.f1.f2 x.f1.f3 x.f2.f0 x.f2.f1 x.f2.f2 x.f2.f3 x.f3.f0 x.f3.f1 x.f3.f2 x.f3.f3) c ∧ (c = false → Ev (fun k => CfR.l1 k j 0 t0 t1 t2 m a4) false) ∧ (c = true → Ev (fun k => CfR.l1 k j 0 t0 t1 t2 m a4) r) := by
  have g1 : ∀ k, money_cassettes.l0 (k + 1) 0 x.f0.f0 x.f0.f1 x.f0.f2 x.f0.f3 x.f1.f0 x.f1.f1 x.f1.f2 x.f1.f3 x.f2.f0 x.f2.f1 x.f2.f2 x.f2.f3 x.f3.f0 x.f3.f1 x.f3.f2 x.f3.f3 = (if x.f0.f0 < 1 then (some false) else (if x.f0.f0 > 100000 then (some false) else (if x.f0.f1 < 0 then (some false) else (if x.f0.f1 > 10000 then (some false) else (if x.f0.f2 = 0 then (if x.f0.f3 = 0 then (money_cassettes.l0 k 1 x.f0.f0 x.f0.f1 x.f0.f2 x.f0.f3 x.f1.f0 x.f1.f1 x.f1.f2 x.f1.f3 x.f2.f0 x.f2.f1 x.f2.f2 x.f2.f3 x.f3.f0 x.f3.f1 x.f3.f2 x.f3.f3) else (some false)) else (some false)))))) := fun k => by
    rw [money_cassettes.l0, if_pos (by decide), if_pos (by decide), wl0]
  have g2 : ∀ k, CfR.l1 (k + 1) j 0 t0 t1 t2 m a4 = (if x.f0.f0 < 1 then (some false) else (if x.f0.f0 > 100000 then (some false) else (if x.f0.f1 < 0 then (some false) else (if x.f0.f1 > 10000 then (some false) else (if x.f0.f2 = 0 then (if x.f0.f3 = 0 then (CfR.l1 k j 1 t0 t1 t2 m a4) else (some false)) else (some false)))))) := fun k => by
    rw [CfR.l1, if_pos (by decide), if_pos h0, if_pos hj, if_pos (by decide), hx, wl0]
  by_cases c1 : x.f0.f0 < 1
  · exact ⟨false, Ev.step (f := fun _ => some false) (fun k => by rw [g1, if_pos c1]) (Ev.now _), fun _ => Ev.step (f := fun _ => some false) (fun k => by rw [g2, if_pos c1]) (Ev.now _), fun h => by cases h⟩
  by_cases c2 : x.f0.f0 > 100000
  · exact ⟨false, Ev.step (f := fun _ => some false) (fun k => by rw [g1, if_neg c1, if_pos c2]) (Ev.now _), fun _ => Ev.step (f := fun _ => some false) (fun k => by rw [g2, if_neg c1, if_pos c2]) (Ev.now _), fun h => by cases h⟩
  by_cases c3 : x.f0.f1 < 0
  · exact ⟨false, Ev.step (f := fun _ => some false) (fun k => by rw [g1, if_neg c1, if_neg c2, if_pos c3]) (Ev.now _), fun _ => Ev.step (f := fun _ => some false) (fun k => by rw [g2, if_neg c1, if_neg c2, if_pos c3]) (Ev.now _), fun h => by cases h⟩
  by_cases c4 : x.f0.f1 > 10000
  · exact ⟨false, Ev.step (f := fun _ => some false) (fun k => by rw [g1, if_neg c1, if_neg c2, if_neg c3, if_pos c4]) (Ev.now _), fun _ => Ev.step (f := fun _ => some false) (fun k => by rw [g2, if_neg c1, if_neg c2, if_neg c3, if_pos c4]) (Ev.now _), fun h => by cases h⟩
  by_cases c5 : x.f0.f2 = 0
  · by_cases c6 : x.f0.f3 = 0
    · refine ⟨b, Ev.step (fun k => by rw [g1, if_neg c1, if_neg c2, if_neg c3, if_neg c4, if_pos c5, if_pos c6]) hb, fun h => Ev.step (fun k => by rw [g2, if_neg c1, if_neg c2, if_neg c3, if_neg c4, if_pos c5, if_pos c6]) (hr h), fun h => Ev.step (fun k => by rw [g2, if_neg c1, if_neg c2, if_neg c3, if_neg c4, if_pos c5, if_pos c6]) (hr' h)⟩
    · exact ⟨false, Ev.step (f := fun _ => some false) (fun k => by rw [g1, if_neg c1, if_neg c2, if_neg c3, if_neg c4, if_pos c5, if_neg c6]) (Ev.now _), fun _ => Ev.step (f := fun _ => some false) (fun k => by rw [g2, if_neg c1, if_neg c2, if_neg c3, if_neg c4, if_pos c5, if_neg c6]) (Ev.now _), fun h => by cases h⟩
  · exact ⟨false, Ev.step (f := fun _ => some false) (fun k => by rw [g1, if_neg c1, if_neg c2, if_neg c3, if_neg c4, if_neg c5]) (Ev.now _), fun _ => Ev.step (f := fun _ => some false) (fun k => by rw [g2, if_neg c1, if_neg c2, if_neg c3, if_neg c4, if_neg c5]) (Ev.now _), fun h => by cases h⟩

theorem cassE (j : Int) (h0 : 0 ≤ j) (hj : j < (t0.length : Int)) (r : Bool) (hr : Ev (fun k => CfR.l0 k (wrap64 (j + 1)) t0 t1 t2 m a4) r) :
    ∃ c, Ev (fun k => cassOf k (rd_T31 t0 j)) c ∧ (c = false → Ev (fun k => CfR.l1 k j 0 t0 t1 t2 m a4) false) ∧ (c = true → Ev (fun k => CfR.l1 k j 0 t0 t1 t2 m a4) r) := by
  generalize hx : rd_T31 t0 j = x
  have e4 : Ev (fun k => money_cassettes.l0 k 4 x.f0.f0 x.f0.f1 x.f0.f2 x.f0.f3 x.f1.f0 x.f1.f1 x.f1.f2 x.f1.f3 x.f2.f0 x.f2.f1 x.f2.f2 x.f2.f3 x.f3.f0 x.f3.f1 x.f3.f2 x.f3.f3) true := Ev.step (f := fun _ => some true) (fun k => by rw [money_cassettes.l0, if_neg (by decide)]) (Ev.now _)
  have r4 : Ev (fun k => CfR.l1 k j 4 t0 t1 t2 m a4) r := Ev.step (fun k => by rw [CfR.l1, if_neg (by decide)]) hr
  obtain ⟨b3, e3, f3, g3⟩ := cassE3 t0 t1 t2 m a4 x j h0 hj hx true e4 r (fun h => by cases h) (fun _ => r4)
  obtain ⟨b2, e2, f2, g2⟩ := cassE2 t0 t1 t2 m a4 x j h0 hj hx b3 e3 r f3 g3
  obtain ⟨b1, e1, f1, g1⟩ := cassE1 t0 t1 t2 m a4 x j h0 hj hx b2 e2 r f2 g2
  obtain ⟨b0, e0, f0, g0⟩ := cassE0 t0 t1 t2 m a4 x j h0 hj hx b1 e1 r f1 g1
  exact ⟨b0, e0, f0, g0⟩
theorem terms (hn0 : t0.length ≤ 100) (hn : t1.length ≤ 64) (h2 : t2.length = t1.length) : ∀ d j : Nat, t0.length - j = d → j ≤ t0.length → ∃ b, Ev (fun k => money_Right.l0 k j t0 t1 t2) b ∧ Ev (fun k => CfR.l0 k (j : Int) t0 t1 t2 m a4) b := by
  intro d
  induction d with
  | zero =>
    intro j hd hj
    obtain ⟨b, e1, e2⟩ := pans t0 t1 t2 m a4 hn h2 _ 0 rfl (Nat.zero_le _)
    refine ⟨b, Ev.step (fun k => ?_) e1, Ev.step (fun k => ?_) e2⟩
    · rw [money_Right.l0, if_neg (by omega)]
    · rw [CfR.l0, if_neg (by omega)]; rfl
  | succ d ih =>
    intro j hd hj
    obtain ⟨b', i1, i2⟩ := ih (j + 1) (by omega) (by omega)
    obtain ⟨c, e1, e2, e3⟩ := cassE t0 t1 t2 m a4 (j : Int) (by omega) (by omega) b' (by rw [wr1 j (by omega)]; exact i2)
    have l0S : ∀ k, CfR.l0 (k + 1) (j : Int) t0 t1 t2 m a4 = CfR.l1 k (j : Int) 0 t0 t1 t2 m a4 := fun k => by rw [CfR.l0, if_pos (by omega)]
    have mR : ∀ r, Ev (fun k => if c = true then money_Right.l0 k (j + 1) t0 t1 t2 else some false) r → Ev (fun k => money_Right.l0 k j t0 t1 t2) r := by
      intro r hr
      refine Ev.step (f := fun k => (cassOf k (rd_T31 t0 j)).bind fun d => if d = true then money_Right.l0 k (j + 1) t0 t1 t2 else some false) (fun k => ?_) (Ev.bind (f := fun k d => if d = true then money_Right.l0 k (j + 1) t0 t1 t2 else some false) e1 hr)
      rw [money_Right.l0, if_pos (by omega)]
    cases c with
    | false => exact ⟨false, mR false (Ev.congr (fun k => if_neg (by decide)) (Ev.now false)), Ev.step l0S (e2 rfl)⟩
    | true => exact ⟨b', mR b' (Ev.congr (fun k => if_pos rfl) i1), Ev.step l0S (e3 rfl)⟩
theorem j0_true : Ev (fun k => CfR.j0 k true t0 t1 t2 m a4) false := Ev.step (f := fun _ => some false) (fun k => by rw [CfR.j0, if_pos rfl]) (Ev.now _)
/-- The program's and the document's 'right' agree. -/
theorem right_alike : ∃ b, Ev (fun k => money_Right.f k t0 t1 t2 m a4) b ∧ Ev (fun k => CfR.f k t0 t1 t2 m a4) b := by
  have hj0 := j0_true t0 t1 t2 m a4
  have no : badB t0 t1 t2 m a4 = true → Ev (fun k => money_Right.f k t0 t1 t2 m a4) false := fun h => Ev.congr (fun k => by rw [money_Right.f, if_pos h]) (Ev.now false)
  by_cases c1 : 8 < t0.length
  · refine ⟨false, no (by simp [badB, c1]), Ev.congr (fun k => ?_) hj0⟩
    rw [CfR.f, if_pos (by omega)]
  by_cases c2 : t2.length = t1.length
  rotate_left
  · refine ⟨false, no (by simp [badB, c2]), Ev.congr (fun k => ?_) hj0⟩
    rw [CfR.f, if_neg (by omega), if_neg (by omega)]
  by_cases c3 : 64 < t1.length
  · refine ⟨false, no (by simp [badB, c3]), Ev.congr (fun k => ?_) hj0⟩
    rw [CfR.f, if_neg (by omega), if_pos (by omega), if_pos (by omega)]
  by_cases c4 : m < 1
  · refine ⟨false, no (by simp [badB, c4]), Ev.congr (fun k => ?_) hj0⟩
    rw [CfR.f, if_neg (by omega), if_pos (by omega), if_neg (by omega), if_pos c4]
  by_cases c5 : a4 > 1000000
  · refine ⟨false, no (by simp [badB, show (1000000 : Int) < a4 from c5]), Ev.congr (fun k => ?_) hj0⟩
    rw [CfR.f, if_neg (by omega), if_pos (by omega), if_neg (by omega), if_neg c4, if_pos c5]
  by_cases c6 : m > a4
  · refine ⟨false, no (by simp [badB, show a4 < m from c6]), Ev.congr (fun k => ?_) hj0⟩
    rw [CfR.f, if_neg (by omega), if_pos (by omega), if_neg (by omega), if_neg c4, if_neg c5, decide_eq_true c6]
  obtain ⟨b, e1, e2⟩ := terms t0 t1 t2 m a4 (by omega) (by omega) c2 _ 0 rfl (Nat.zero_le _)
  refine ⟨b, Ev.congr (fun k => ?_) e1, Ev.congr (f := fun k => CfR.j0 k false t0 t1 t2 m a4) (fun k => ?_) (Ev.step (fun k => ?_) e2)⟩
  · have hb : ¬ badB t0 t1 t2 m a4 = true := by
      simp only [badB, Bool.or_eq_true, decide_eq_true_eq, Bool.not_eq_true', decide_eq_false_iff_not]
      omega
    rw [money_Right.f, if_neg hb]
  · rw [CfR.f, if_neg (by omega), if_pos (by omega), if_neg (by omega), if_neg c4, if_neg c5, decide_eq_false c6]
  · rw [CfR.j0, if_neg (by decide)]; rfl
end
theorem cfg_alike (l0 : List S31) (l1 : List ByteArray) (l2 : List Int) (lo hi : Int) : ∃ K b, money_Right.f K l0 l1 l2 lo hi = some b ∧ CfR.f K l0 l1 l2 lo hi = some b := by
  obtain ⟨b, ⟨K1, h1⟩, ⟨K2, h2⟩⟩ := right_alike l0 l1 l2 lo hi
  exact ⟨max K1 K2, b, h1 _ (by omega), h2 _ (by omega)⟩

theorem cass_all : ∀ a : Fin 256, (guichetseat_Cass.f 6 (a.val : Int)).isSome = true := by decide +kernel
theorem cass_ev (a : Int) (h0 : 0 ≤ a) (h1 : a < 256) : ∃ r, Ev (fun k => guichetseat_Cass.f k a) r := by
  obtain ⟨n, rfl⟩ := Int.eq_ofNat_of_zero_le h0
  obtain ⟨r, hr⟩ := Option.isSome_iff_exists.mp (cass_all ⟨n, by omega⟩)
  exact ⟨r, Ev.of (guichetseat_Cass.mono _) hr⟩
section
variable (x0 x1 : Int) (l : List S31) (lo hi : Int)
theorem bank2 : ∃ b1 b2, Ev (fun k => guichetseat_Bank.l2 k x1 0 l [] [] lo hi) (l, b1, b2, lo, hi) ∧ b1.length = 4 ∧ b2.length = 4 := by
  let p0 : ByteArray := ⟨#[52, 48, 48, 48, 49, 50, 51, 52, 49, 50, 51, 52, 49, 50, 51, 52]⟩
  let p1 : ByteArray := ⟨#[53, 49]⟩
  let p2 : ByteArray := ⟨#[57]⟩
  let p3 : ByteArray := ⟨#[54, 48, 49, 49, 48, 48, 48, 57, 57, 48, 49, 51, 57, 52, 50, 52]⟩
  let F : Int → Int := fun x9 => wrap64 ((wrap64 ((wrap64 (x9)) * 20000)) + (wrap64 ((wrap64 (x1)) * 100)))
  refine ⟨[p0, p1, p2, p3], [F 0, F 1, F 2, F 3], ?_, rfl, rfl⟩
  refine Ev.step (f := fun k => guichetseat_Bank.l2 k x1 1 l [p0] [F 0] lo hi) (fun k => by rw [guichetseat_Bank.l2, if_pos (by decide), show guichetseat_Pan.f 0 = some p0 from by decide +kernel, Option.bind_some, if_pos (by simp), if_pos (by simp)]; rfl) ?_
  refine Ev.step (f := fun k => guichetseat_Bank.l2 k x1 2 l [p0, p1] [F 0, F 1] lo hi) (fun k => by rw [guichetseat_Bank.l2, if_pos (by decide), show guichetseat_Pan.f 1 = some p1 from by decide +kernel, Option.bind_some, if_pos (by simp), if_pos (by simp)]; rfl) ?_
  refine Ev.step (f := fun k => guichetseat_Bank.l2 k x1 3 l [p0, p1, p2] [F 0, F 1, F 2] lo hi) (fun k => by rw [guichetseat_Bank.l2, if_pos (by decide), show guichetseat_Pan.f 2 = some p2 from by decide +kernel, Option.bind_some, if_pos (by simp), if_pos (by simp)]; rfl) ?_
  refine Ev.step (f := fun k => guichetseat_Bank.l2 k x1 4 l [p0, p1, p2, p3] [F 0, F 1, F 2, F 3] lo hi) (fun k => by rw [guichetseat_Bank.l2, if_pos (by decide), show guichetseat_Pan.f 3 = some p3 from by decide +kernel, Option.bind_some, if_pos (by simp), if_pos (by simp)]; rfl) ?_
  exact Ev.step (f := fun _ => some _) (fun k => by rw [guichetseat_Bank.l2, if_neg (by decide)]) (Ev.now _)

theorem bank1 (x6 : Int) (hl : l.length < 1099511627776) (a0 a1 a2 a3 a4 a5 a6 a7 a8 a9 a10 a11 a12 a13 a14 a15 : Int) (r : List S31 × List ByteArray × List Int × Int × Int) (h : ∀ y, Ev (fun k => guichetseat_Bank.l0 k x0 x1 (wrap64 (x6 + 1)) (l ++ [y]) lo hi) r → True) :
    ∃ y : S31, ∀ r, Ev (fun k => guichetseat_Bank.l0 k x0 x1 (wrap64 (x6 + 1)) (l ++ [y]) lo hi) r → Ev (fun k => guichetseat_Bank.l1 k x0 x1 x6 0 l lo hi a0 a1 a2 a3 a4 a5 a6 a7 a8 a9 a10 a11 a12 a13 a14 a15) r := by
  refine ⟨(⟨(⟨a0, (mx a1 9), a2, a3⟩ : S30), (⟨a4, (mx a5 9), a6, a7⟩ : S30), (⟨a8, (mx a9 9), a10, a11⟩ : S30), (⟨a12, (mx a13 9), a14, a15⟩ : S30)⟩ : S31), fun r hr => ?_⟩
  refine Ev.step (f := fun k => guichetseat_Bank.l1 k x0 x1 x6 1 l lo hi a0 (mx a1 9) a2 a3 a4 a5 a6 a7 a8 a9 a10 a11 a12 a13 a14 a15) (fun k => by rw [guichetseat_Bank.l1, if_pos (by decide), if_pos (by decide), if_pos (by decide), wl0]) ?_
  refine Ev.step (f := fun k => guichetseat_Bank.l1 k x0 x1 x6 2 l lo hi a0 (mx a1 9) a2 a3 a4 (mx a5 9) a6 a7 a8 a9 a10 a11 a12 a13 a14 a15) (fun k => by rw [guichetseat_Bank.l1, if_pos (by decide), if_neg (by decide), if_pos (by decide), if_neg (by decide), if_pos (by decide), wl1]) ?_
  refine Ev.step (f := fun k => guichetseat_Bank.l1 k x0 x1 x6 3 l lo hi a0 (mx a1 9) a2 a3 a4 (mx a5 9) a6 a7 a8 (mx a9 9) a10 a11 a12 a13 a14 a15) (fun k => by rw [guichetseat_Bank.l1, if_pos (by decide), if_neg (by decide), if_neg (by decide), if_pos (by decide), if_neg (by decide), if_neg (by decide), if_pos (by decide), wl2]) ?_
  refine Ev.step (f := fun k => guichetseat_Bank.l1 k x0 x1 x6 4 l lo hi a0 (mx a1 9) a2 a3 a4 (mx a5 9) a6 a7 a8 (mx a9 9) a10 a11 a12 (mx a13 9) a14 a15) (fun k => by rw [guichetseat_Bank.l1, if_pos (by decide), if_neg (by decide), if_neg (by decide), if_neg (by decide), if_pos (by decide), if_neg (by decide), if_neg (by decide), if_neg (by decide), if_pos (by decide), wl3]) ?_
  refine Ev.step (fun k => ?_) hr
  rw [guichetseat_Bank.l1, if_neg (by decide), if_pos hl]
theorem bank0 (c : Nat) (hc : c ≤ 3) (hx : wrap64 ((wrap64 (Int.tmod x0 3)) + 1) = (c : Int)) (h0 : 0 ≤ x1) (h1 : x1 < 256) : ∀ d j : Nat, c - j = d → j ≤ c → ∀ l : List S31, l.length = j → ∃ b0 b1 b2, Ev (fun k => guichetseat_Bank.l0 k x0 x1 (j : Int) l lo hi) (b0, b1, b2, lo, hi) ∧ b0.length = c ∧ b1.length = 4 ∧ b2.length = 4 := by
  intro d
  induction d with
  | zero =>
    intro j hd hj l hl
    obtain ⟨b1, b2, e, h1, h2⟩ := bank2 x1 l lo hi
    refine ⟨l, b1, b2, Ev.step (fun k => ?_) e, by omega, h1, h2⟩
    rw [guichetseat_Bank.l0, hx, if_neg (by omega)]
  | succ d ih =>
    intro j hd hj l hl
    obtain ⟨q, hq⟩ := cass_ev ((x1 + ((j : Int)) % 256) % 256) (by omega) (by omega)
    obtain ⟨y, hy⟩ := bank1 x0 x1 l lo hi (j : Int) (by omega) q.1 q.2.1 q.2.2.1 q.2.2.2.1 q.2.2.2.2.1 q.2.2.2.2.2.1 q.2.2.2.2.2.2.1 q.2.2.2.2.2.2.2.1 q.2.2.2.2.2.2.2.2.1 q.2.2.2.2.2.2.2.2.2.1 q.2.2.2.2.2.2.2.2.2.2.1 q.2.2.2.2.2.2.2.2.2.2.2.1 q.2.2.2.2.2.2.2.2.2.2.2.2.1 q.2.2.2.2.2.2.2.2.2.2.2.2.2.1 q.2.2.2.2.2.2.2.2.2.2.2.2.2.2.1 q.2.2.2.2.2.2.2.2.2.2.2.2.2.2.2 ([], [], [], 0, 0) (fun _ _ => trivial)
    obtain ⟨b0, b1, b2, e, h2, h3, h4⟩ := ih (j + 1) (by omega) (by omega) (l ++ [y]) (by simp; omega)
    refine ⟨b0, b1, b2, ?_, h2, h3, h4⟩
    have hh := hy _ (by rw [wr1 j (by omega)]; exact e)
    refine Ev.step (f := fun k => (guichetseat_Cass.f k ((x1 + ((j : Int)) % 256) % 256)).bind fun bt135 => guichetseat_Bank.l1 k x0 x1 (j : Int) 0 l lo hi bt135.1 bt135.2.1 bt135.2.2.1 bt135.2.2.2.1 bt135.2.2.2.2.1 bt135.2.2.2.2.2.1 bt135.2.2.2.2.2.2.1 bt135.2.2.2.2.2.2.2.1 bt135.2.2.2.2.2.2.2.2.1 bt135.2.2.2.2.2.2.2.2.2.1 bt135.2.2.2.2.2.2.2.2.2.2.1 bt135.2.2.2.2.2.2.2.2.2.2.2.1 bt135.2.2.2.2.2.2.2.2.2.2.2.2.1 bt135.2.2.2.2.2.2.2.2.2.2.2.2.2.1 bt135.2.2.2.2.2.2.2.2.2.2.2.2.2.2.1 bt135.2.2.2.2.2.2.2.2.2.2.2.2.2.2.2) (fun k => ?_) (Ev.bind (f := fun k bt135 => guichetseat_Bank.l1 k x0 x1 (j : Int) 0 l lo hi bt135.1 bt135.2.1 bt135.2.2.1 bt135.2.2.2.1 bt135.2.2.2.2.1 bt135.2.2.2.2.2.1 bt135.2.2.2.2.2.2.1 bt135.2.2.2.2.2.2.2.1 bt135.2.2.2.2.2.2.2.2.1 bt135.2.2.2.2.2.2.2.2.2.1 bt135.2.2.2.2.2.2.2.2.2.2.1 bt135.2.2.2.2.2.2.2.2.2.2.2.1 bt135.2.2.2.2.2.2.2.2.2.2.2.2.1 bt135.2.2.2.2.2.2.2.2.2.2.2.2.2.1 bt135.2.2.2.2.2.2.2.2.2.2.2.2.2.2.1 bt135.2.2.2.2.2.2.2.2.2.2.2.2.2.2.2) hq hh)
    rw [guichetseat_Bank.l0, hx, if_pos (by omega)]
end
theorem bank_is (tm kk : Int) (h0 : 0 ≤ tm) (h1 : 0 ≤ kk) (h2 : kk < 256) : ∃ K b0 b1 b2 lo hi, guichetseat_Bank.f K tm kk = some (b0, b1, b2, lo, hi) ∧ 0 < b0.length ∧ b0.length ≤ 3 ∧ b1.length = 4 ∧ b2.length = 4 := by
  obtain ⟨n, rfl⟩ := Int.eq_ofNat_of_zero_le h0
  have hx : wrap64 ((wrap64 (Int.tmod (n : Int) 3)) + 1) = ((n % 3 + 1 : Nat) : Int) := by
    rw [show Int.tmod (n : Int) 3 = ((n % 3 : Nat) : Int) from rfl]
    unfold wrap64
    omega
  obtain ⟨b0, b1, b2, ⟨K, e⟩, h3, h4, h5⟩ := bank0 (n : Int) kk 500 100000 (n % 3 + 1) (by omega) hx h1 h2 _ 0 rfl (by omega) [] rfl
  exact ⟨K, b0, b1, b2, 500, 100000, e K (Nat.le_refl _), by omega, by omega, h4, h5⟩
theorem known_is : ∃ K, guichetlaw16_known.f K = some true := ⟨100, by kernel_rfl⟩
end Go.Proofs.YtjheabcffkbfkaaDoor.X
