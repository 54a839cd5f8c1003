/- The plain law of guichetlaw14.TableWays: where Check finds nothing wrong, an end is reached from each place in at most as many steps as there are states; and what the table of few numbers is. -/
import Derived.Test.YtjheabcffkbfkaaDoorTM
import Derived.Test.YtjheabcffkbfkaaDoorTK
import Derived.Test.YtjheabcffkbfkaaDoorT3
import Derived.Test.YtjheabcffkbfkaaDoorT4
import Derived.Test.YtjheabcffkbfkaaDoorTL
namespace Go.Proofs.YtjheabcffkbfkaaDoor.T
open Go.RowKit Go.Proofs.YtjheabcffkbfkaaDoorV.PrintWords Go.Proofs.YtjheabcffkbfkaaDoorV.PrintLast Go.Proofs.YtjheabcffkbfkaaDoorV.PrintMore
set_option linter.unusedVariables false
set_option linter.unusedSimpArgs false
theorem isO_byte : ∀ a : Fin 256, isO (a.val : Int) = true → a.val = 66 ∨ a.val = 68 ∨ a.val = 69 := by decide +kernel
theorem isO_kind (k : Int) (h0 : 0 ≤ k) (h1 : k < 256) (h : isO k = true) : k = 66 ∨ k = 68 ∨ k = 69 := by
  obtain ⟨n, rfl⟩ := Int.eq_ofNat_of_zero_le h0
  have := isO_byte ⟨n, by omega⟩ h
  simp only at this
  omega
section
variable (m : List S43)
/-- From place q an end is reached. -/
inductive Way : Nat → Prop
  | fin (q : Nat) (hq : q < m.length) (h : (rd_T43 m (q : Int)).f1 = 90) : Way q
  | go (q : Nat) (hq : q < m.length) (n : Int) (hn : n ∈ leadsOf (rd_T43 m (q : Int))) (h : Way (posOf (ids m) n)) : Way q
def AllWay (out : List Bool) : Prop := ∀ q, out.getD q false = true → Way m q
theorem getD_set (out : List Bool) (i q : Nat) (b : Bool) (h : (out.set i b).getD q false = true) : (q = i ∧ b = true) ∨ out.getD q false = true := by
  by_cases hq : i = q
  · subst hq
    rw [List.getD_eq_getElem?_getD, List.getElem?_set] at h
    simp only [if_true] at h
    split at h
    · exact .inl ⟨rfl, by simpa using h⟩
    · simp at h
  · rw [List.getD_eq_getElem?_getD, List.getElem?_set_ne hq, ← List.getD_eq_getElem?_getD] at h
    exact .inr h
theorem relax1_way (i : Nat) (hi : i < m.length) (n : Int) (hn : n ∈ leadsOf (rd_T43 m (i : Int))) (out : List Bool) (h : AllWay m out) : AllWay m (relax1 (ids m) i out n) := by
  intro q hq
  unfold relax1 at hq
  rcases getD_set _ _ _ _ hq with ⟨rfl, hb⟩ | hq
  · rw [Bool.or_eq_true] at hb
    rcases hb with hb | hb
    · exact h q hb
    · exact .go q hi n hn (h _ hb)
  · exact h q hq
theorem foldl_way (i : Nat) (hi : i < m.length) : ∀ (ns : List Int), (∀ n ∈ ns, n ∈ leadsOf (rd_T43 m (i : Int))) → ∀ out, AllWay m out → AllWay m (ns.foldl (relax1 (ids m) i) out)
  | [], _, _, h => h
  | n :: r, hs, out, h => by
    rw [List.foldl_cons]
    exact foldl_way i hi r (fun x hx => hs x (List.mem_cons_of_mem _ hx)) _ (relax1_way m i hi n (hs n List.mem_cons_self) out h)
theorem relax_way (i : Nat) (hi : i < m.length) (out : List Bool) (h : AllWay m out) : AllWay m (relax m i out) := by
  unfold relax
  refine foldl_way m i hi _ (fun n hn => hn) _ ?_
  split
  · rename_i hk
    intro q hq
    rcases getD_set _ _ _ _ hq with ⟨rfl, _⟩ | hq
    · exact .fin q hi hk
    · exact h q hq
  · exact h
theorem sweep_way : ∀ d i, i + d ≤ m.length → ∀ out, AllWay m out → AllWay m (sweep m d i out)
  | 0, _, _, _, h => h
  | d + 1, i, hd, out, h => by
    rw [sweep]
    exact sweep_way d (i + 1) (by omega) _ (relax_way m i (by omega) out h)
theorem sweeps_way : ∀ d out, AllWay m out → AllWay m (sweeps m d out)
  | 0, _, h => h
  | d + 1, out, h => by
    rw [sweeps]
    exact sweeps_way d _ (sweep_way m m.length 0 (by omega) out h)
theorem ends_way : AllWay m (endsOf m) := by
  refine sweeps_way m _ _ (fun q hq => ?_)
  rw [List.getD_eq_getElem?_getD, List.getElem?_replicate] at hq
  split at hq <;> simp at hq
theorem chkC_all (out : List Bool) : ∀ d j (r : Int), chkC out d j = (r, 0) → ∀ q, j ≤ q → q < j + d → out.getD q false = true
  | 0, j, r, _, q, h1, h2 => by omega
  | d + 1, j, r, h, q, h1, h2 => by
    rw [chkC] at h
    split at h
    · rename_i hj
      by_cases hq : q = j
      · subst hq; exact hj
      · exact chkC_all out d (j + 1) r h q (by omega) (by omega)
    · have := congrArg Prod.snd h
      simp at this
theorem chkB_all : ∀ d j (r : Int), chkB m d j = (r, 0) → (∀ q, j ≤ q → q < j + d → leadsIn (ids m) (leadsOf (rd_T43 m (q : Int))) = true) ∧ ∀ q, q < m.length → (endsOf m).getD q false = true
  | 0, j, r, h => ⟨fun q h1 h2 => by omega, fun q hq => chkC_all _ _ 0 r (by rw [chkB] at h; exact h) q (by omega) (by omega)⟩
  | d + 1, j, r, h => by
    rw [chkB] at h
    split at h
    · rename_i hj
      obtain ⟨h1, h2⟩ := chkB_all d (j + 1) r h
      refine ⟨fun q h3 h4 => ?_, h2⟩
      by_cases hq : q = j
      · subst hq; exact hj
      · exact h1 q (by omega) (by omega)
    · have := congrArg Prod.snd h
      simp at this
theorem chkA_all : ∀ d j (r : Int), chkA m d j = (r, 0) → ∃ r', chkB m m.length 0 = (r', 0)
  | 0, j, r, h => ⟨r, by rw [chkA] at h; exact h⟩
  | d + 1, j, r, h => by
    rw [chkA] at h
    split at h
    · have := congrArg Prod.snd h
      simp at this
    · exact chkA_all d (j + 1) r h
theorem posOf_get (n : Int) (hn : n ∈ ids m) : posOf (ids m) n < m.length ∧ (rd_T43 m (posOf (ids m) n : Int)).f0 = n := by
  have hl : posOf (ids m) n < (ids m).length := posOf_lt _ _ hn
  have hl2 : posOf (ids m) n < m.length := by simpa [ids] using hl
  refine ⟨hl2, ?_⟩
  have h1 : (ids m)[posOf (ids m) n] = n := List.getElem_idxOf hl
  have h2 : rd_T43 m (posOf (ids m) n : Int) = m[posOf (ids m) n] := by simp [rd_T43, List.getD, List.getElem?_eq_getElem hl2]
  rw [h2]
  simpa [ids] using h1
variable (hk : ∀ s ∈ m, 0 ≤ s.f1 ∧ s.f1 < 256)
include hk
theorem leads_step (q : Nat) (hq : q < m.length) (n : Int) (hn : n ∈ leadsOf (rd_T43 m (q : Int))) : n ∈ stepOf (rd_T43 m (q : Int)) := by
  obtain ⟨h0, h1⟩ := hk _ (mem_ids m q hq)
  unfold leadsOf at hn
  unfold stepOf
  rw [List.mem_append] at hn ⊢
  rcases hn with hn | hn
  · left
    split at hn
    · cases hn
    · rw [List.mem_singleton] at hn; subst hn; simp
  · split at hn
    · rename_i ho
      right
      rw [if_pos (isO_kind _ h0 h1 ho)]
      exact hn
    · cases hn
omit hk in
theorem mem_next (R : List Int) (q : Nat) (hq : q < m.length) (hr : (rd_T43 m (q : Int)).f0 ∈ R) (n : Int) (hn : n ∈ stepOf (rd_T43 m (q : Int))) : n ∈ nextOf R m := by
  unfold nextOf
  rw [List.mem_flatMap]
  exact ⟨_, mem_ids m q hq, by rw [if_pos hr]; exact hn⟩
theorem way_reach (x : Int) (hin : ∀ q, q < m.length → leadsIn (ids m) (leadsOf (rd_T43 m (q : Int))) = true) (q : Nat) (h : Way m q) : ∀ i, (rd_T43 m (q : Int)).f0 ∈ reach m x i → ∃ i2 p, p < m.length ∧ (rd_T43 m (p : Int)).f0 ∈ reach m x i2 ∧ (rd_T43 m (p : Int)).f1 = 90 := by
  induction h with
  | fin q hq h => exact fun i hi => ⟨i, q, hq, hi, h⟩
  | go q hq n hn h ih =>
    intro i hi
    refine ih (i + 1) ?_
    rw [(posOf_get m n (leadsIn_mem _ _ (hin q hq) n hn)).2]
    exact mem_next m _ q hq hi n (leads_step m hk q hq n hn)
omit hk
/-- How many places are reached by i steps. -/
def cnt (x : Int) (i : Nat) : Nat := (List.range m.length).countP fun p : Nat => decide ((rd_T43 m (p : Int)).f0 ∈ reach m x i)
def Still (x : Int) (i : Nat) : Prop := ∀ p, p < m.length → (rd_T43 m (p : Int)).f0 ∈ reach m x (i + 1) → (rd_T43 m (p : Int)).f0 ∈ reach m x i
theorem reach_mono (x : Int) (i p : Nat) (hp : p < m.length) (h : (rd_T43 m (p : Int)).f0 ∈ reach m x i) : (rd_T43 m (p : Int)).f0 ∈ reach m x (i + 1) := by
  rw [reach, nextOf, List.mem_flatMap]
  exact ⟨_, mem_ids m p hp, by rw [if_pos h]; simp [stepOf]⟩
theorem countP_eq_all {α : Type} (p q : α → Bool) : ∀ (l : List α), (∀ x ∈ l, p x = true → q x = true) → l.countP q ≤ l.countP p → ∀ x ∈ l, q x = true → p x = true
  | [], _, _, x, hx, _ => by cases hx
  | a :: r, h, hc, x, hx, hq => by
    have hle : r.countP p ≤ r.countP q := List.countP_mono_left (fun y hy hp => h y (List.mem_cons_of_mem _ hy) hp)
    have ha := h a List.mem_cons_self
    rw [List.countP_cons, List.countP_cons] at hc
    rcases List.mem_cons.mp hx with rfl | hx
    · cases hp : p x
      · rw [hp, hq] at hc
        simp at hc
        omega
      · rfl
    · refine countP_eq_all p q r (fun y hy => h y (List.mem_cons_of_mem _ hy)) ?_ x hx hq
      cases hp : p a <;> cases hqa : q a
      · rw [hp, hqa] at hc; simpa using hc
      · rw [hp, hqa] at hc; simp at hc; omega
      · have := ha hp; rw [hqa] at this; cases this
      · rw [hp, hqa] at hc; simp at hc; omega
theorem still_or (x : Int) (h0 : 1 ≤ cnt m x 0) : ∀ i, (∃ j, j ≤ i ∧ Still m x j) ∨ i + 1 ≤ cnt m x i
  | 0 => .inr h0
  | i + 1 => by
    rcases still_or x h0 i with ⟨j, hj, h⟩ | h
    · exact .inl ⟨j, by omega, h⟩
    · by_cases hs : Still m x i
      · exact .inl ⟨i, by omega, hs⟩
      · right
        have hle : cnt m x i ≤ cnt m x (i + 1) := List.countP_mono_left (fun p hp hd => by
          rw [List.mem_range] at hp
          exact decide_eq_true (reach_mono m x i p hp (of_decide_eq_true hd)))
        by_cases he : cnt m x (i + 1) ≤ cnt m x i
        · exfalso
          apply hs
          intro p hp hr
          have := countP_eq_all (fun p : Nat => decide ((rd_T43 m (p : Int)).f0 ∈ reach m x i)) (fun p : Nat => decide ((rd_T43 m (p : Int)).f0 ∈ reach m x (i + 1))) (List.range m.length) (fun y hy hd => by
            rw [List.mem_range] at hy
            exact decide_eq_true (reach_mono m x i y hy (of_decide_eq_true hd))) he p (List.mem_range.mpr hp) (decide_eq_true hr)
          exact of_decide_eq_true this
        · omega
theorem still_stays (x : Int) (j : Nat) (h : Still m x j) : ∀ d p, p < m.length → (rd_T43 m (p : Int)).f0 ∈ reach m x (j + d) → (rd_T43 m (p : Int)).f0 ∈ reach m x j
  | 0, p, _, hr => hr
  | d + 1, p, hp, hr => by
    have hr : (rd_T43 m (p : Int)).f0 ∈ nextOf (reach m x (j + d)) m := hr
    rw [nextOf, List.mem_flatMap] at hr
    obtain ⟨s, hs, hn⟩ := hr
    obtain ⟨q, hq, rfl⟩ := List.mem_iff_getElem.mp hs
    have e : rd_T43 m (q : Int) = m[q] := by simp [rd_T43, List.getD, List.getElem?_eq_getElem hq]
    rw [← e] at hn
    split at hn
    · rename_i hin
      have := still_stays x j h d q hq hin
      refine h p hp ?_
      rw [reach, nextOf, List.mem_flatMap]
      exact ⟨_, mem_ids m q hq, by rw [if_pos this]; exact hn⟩
    · cases hn
theorem ways_of_check (hk : ∀ s ∈ m, 0 ≤ s.f1 ∧ s.f1 < 256) (r1 : Int) (h : chkA m m.length 0 = (r1, 0)) (q : Nat) (hq : q < m.length) : WaysEnd m (rd_T43 m (q : Int)).f0 := by
  obtain ⟨r', hB⟩ := chkA_all m _ _ _ h
  obtain ⟨h1, h2⟩ := chkB_all m _ _ _ hB
  have hin : ∀ q, q < m.length → leadsIn (ids m) (leadsOf (rd_T43 m (q : Int))) = true := fun q hq => h1 q (by omega) (by omega)
  obtain ⟨i2, p, hp, hr, he⟩ := way_reach m hk (rd_T43 m (q : Int)).f0 hin q (ends_way m q (h2 q hq)) 0 (by simp [reach])
  have h0 : 1 ≤ cnt m (rd_T43 m (q : Int)).f0 0 := by
    unfold cnt
    exact List.countP_pos_iff.mpr ⟨q, List.mem_range.mpr hq, decide_eq_true (by simp [reach])⟩
  rcases still_or m _ h0 m.length with ⟨j, hj, hs⟩ | hc
  · by_cases hi : i2 ≤ m.length
    · exact ⟨i2, hi, p, hp, hr, he⟩
    · refine ⟨j, hj, p, hp, ?_, he⟩
      refine still_stays m _ j hs (i2 - j) p hp ?_
      rw [show j + (i2 - j) = i2 by omega]
      exact hr
  · exfalso
    have : cnt m (rd_T43 m (q : Int)).f0 m.length ≤ m.length := by
      unfold cnt
      have := List.countP_le_length (p := fun p : Nat => decide ((rd_T43 m (p : Int)).f0 ∈ reach m (rd_T43 m (q : Int)).f0 m.length)) (l := List.range m.length)
      rw [List.length_range] at this
      exact this
    omega
end
theorem known_is : ∃ K, guichetlaw14_known.f K = some true := ⟨60, by kernel_rfl⟩
theorem wr1 (i : Nat) (h : i ≤ 1000) : wrap64 ((i : Int) + 1) = ((i + 1 : Nat) : Int) := by
  unfold wrap64; omega
def byteS (s : S62) : Prop := (0 ≤ s.f0 ∧ s.f0 < 256) ∧ (0 ≤ s.f1 ∧ s.f1 < 256) ∧ (0 ≤ s.f2 ∧ s.f2 < 256) ∧ (0 ≤ s.f3 ∧ s.f3 < 256)
def fine (s : S43) : Prop := okS s = true ∧ 0 ≤ s.f1 ∧ s.f1 < 256
theorem fine_mk (a k b c : Int) (ha : 0 ≤ a ∧ a < 1000) (hb : 0 ≤ b ∧ b < 1000) (hc : 0 ≤ c ∧ c < 1000) (hk : 0 ≤ k ∧ k ≤ 255) : fine ⟨a, k, b, c⟩ := by
  refine ⟨?_, hk.1, by show k < 256; omega⟩
  simp only [okS, Bool.and_eq_true]
  exact ⟨⟨WalkArith.wf_i64 (by omega), WalkArith.wf_i64 (by omega)⟩, WalkArith.wf_i64 (by omega)⟩
theorem tmod_small (a n : Int) (h0 : 0 ≤ a) (hn : 0 < n) (hb : n ≤ 100) : 0 ≤ a.tmod n ∧ a.tmod n < 1000 := by
  rw [Int.tmod_eq_emod_of_nonneg h0]
  exact ⟨Int.emod_nonneg _ (by omega), by have := Int.emod_lt_of_pos a hn; omega⟩
theorem table_go (l : List S62) (hl : l.length ≤ 40) (hb : ∀ s ∈ l, byteS s) (n : Int) (hn0 : 2 ≤ n) (hn1 : n ≤ 13) : ∀ d j : Nat, l.length - j = d → j ≤ l.length → ∀ out : List S43, out.length = j → (∀ s ∈ out, fine s) → ∃ m, Ev (fun k => guichetseat_Table.l0 k l out n (j : Int)) m ∧ m.length = l.length ∧ ∀ s ∈ m, fine s := by
  intro d
  induction d with
  | zero =>
    intro j hd hj out ho hf
    refine ⟨out, Ev.step (f := fun _ => some out) (fun k => ?_) (Ev.now _), by omega, hf⟩
    rw [guichetseat_Table.l0, if_neg (by omega)]
  | succ d ih =>
    intro j hd hj out ho hf
    have hlt : j < l.length := by omega
    have hm : rd_T62 l (j : Int) ∈ l := by
      have : rd_T62 l (j : Int) = l[j] := by simp [rd_T62, List.getD, List.getElem?_eq_getElem hlt]
      rw [this]; exact List.getElem_mem hlt
    obtain ⟨⟨a0, a1⟩, ⟨b0, b1⟩, ⟨c0, c1⟩, ⟨e0, e1⟩⟩ := hb _ hm
    have hw2 : wrap64 (rd_T62 l (j : Int)).f2 = (rd_T62 l (j : Int)).f2 := by unfold wrap64; omega
    have hw3 : wrap64 (rd_T62 l (j : Int)).f3 = (rd_T62 l (j : Int)).f3 := by unfold wrap64; omega
    have hk6 : 0 ≤ (rd_T62 l (j : Int)).f1.tmod 6 ∧ (rd_T62 l (j : Int)).f1.tmod 6 < 6 := by
      rw [Int.tmod_eq_emod_of_nonneg b0]; omega
    have hbt := bt_range (⟨#[65, 66, 68, 69, 73, 90]⟩ : ByteArray) ((rd_T62 l (j : Int)).f1.tmod 6)
    have t2 := tmod_small (rd_T62 l (j : Int)).f2 n c0 (by omega) (by omega)
    have t3 := tmod_small (rd_T62 l (j : Int)).f3 n e0 (by omega) (by omega)
    have go : ∀ id : Int, 0 ≤ id ∧ id < 1000 → ∃ m, Ev (fun k => guichetseat_Table.l0 k l (out ++ [(⟨id, bt (⟨#[65, 66, 68, 69, 73, 90]⟩ : ByteArray) ((rd_T62 l (j : Int)).f1.tmod 6), (rd_T62 l (j : Int)).f2.tmod n, (rd_T62 l (j : Int)).f3.tmod n⟩ : S43)]) n ((j + 1 : Nat) : Int)) m ∧ m.length = l.length ∧ ∀ s ∈ m, fine s := fun id hid => by
      refine ih (j + 1) (by omega) (by omega) _ (by simp [ho]) (fun s hs => ?_)
      rw [List.mem_append, List.mem_singleton] at hs
      rcases hs with hs | rfl
      · exact hf s hs
      · exact fine_mk _ _ _ _ hid t2 t3 hbt
    by_cases h15 : (rd_T62 l (j : Int)).f0.tmod 16 = 15
    · obtain ⟨m, hm1, hm2, hm3⟩ := go (((rd_T62 l (j : Int)).f0.tdiv 16 % 256) % n) (by
        have := Int.emod_nonneg ((rd_T62 l (j : Int)).f0.tdiv 16 % 256) (show n ≠ 0 by omega)
        have := Int.emod_lt_of_pos ((rd_T62 l (j : Int)).f0.tdiv 16 % 256) (show 0 < n by omega)
        omega)
      refine ⟨m, Ev.step (fun k => ?_) hm1, hm2, hm3⟩
      rw [guichetseat_Table.l0, if_pos (by omega), if_pos (by omega), if_pos h15, if_neg (by omega), if_pos hk6.1, if_pos hk6.2, if_pos (by omega), hw2, hw3, wr1 j (by omega)]
    · obtain ⟨m, hm1, hm2, hm3⟩ := go (j : Int) (by omega)
      refine ⟨m, Ev.step (fun k => ?_) hm1, hm2, hm3⟩
      rw [guichetseat_Table.l0, if_pos (by omega), if_pos (by omega), if_neg h15, if_pos hk6.1, if_pos hk6.2, if_neg (by omega), if_pos (by omega), hw2, hw3, wr1 j (by omega)]
theorem table_is (l : List S62) (few : Int) (h0 : 0 ≤ few) (h1 : few < 256) (hb : ∀ s ∈ l, byteS s) : l.length ≤ 40 → ∃ K m, guichetseat_Table.f K l few = some m ∧ m.length = l.length ∧ m.all okS = true ∧ ∀ r1 : Int, chkA m m.length 0 = (r1, 0) → ∀ q, q < m.length → WaysEnd m (rd_T43 m (q : Int)).f0 := by
  intro hl
  obtain ⟨n, hn⟩ : ∃ n, wrap64 ((wrap64 (Int.tmod few 12)) + 2) = n := ⟨_, rfl⟩
  have hr : 2 ≤ n ∧ n ≤ 13 := by
    rw [Int.tmod_eq_emod_of_nonneg h0] at hn
    unfold wrap64 at hn
    omega
  obtain ⟨m, ⟨K, hm1⟩, hm2, hm3⟩ := table_go l hl hb n hr.1 hr.2 _ 0 rfl (Nat.zero_le _) [] rfl (fun s hs => by cases hs)
  refine ⟨K, m, ?_, hm2, List.all_eq_true.mpr (fun s hs => (hm3 s hs).1), fun r1 h q hq => ways_of_check m (fun s hs => (hm3 s hs).2) r1 h q hq⟩
  unfold guichetseat_Table.f
  rw [hn]
  exact hm1 K (Nat.le_refl _)
end Go.Proofs.YtjheabcffkbfkaaDoor.T
