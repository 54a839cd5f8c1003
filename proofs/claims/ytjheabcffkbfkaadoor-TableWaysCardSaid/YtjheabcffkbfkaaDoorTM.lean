/- Laws of a map of bools that the call itself has made: its literal, a look-up, 'm[a], m[b] = x, y' (an entry, then its store: together what 'm[a] = x' comes to). -/
import Derived.Test.YtjheabcffkbfkaaDoorTC
import Derived.Maps.Keyed
import Derived.Maps.Own
import Derived.Maps.OwnOps
import Derived.Maps.OwnSet
import Derived.Maps.Views
namespace Go.Proofs.YtjheabcffkbfkaaDoor.T
open Go.RowKit Go.Proofs.YtjheabcffkbfkaaDoorV.PrintWords Go.Proofs.YtjheabcffkbfkaaDoorV.PrintLast Go.Proofs.YtjheabcffkbfkaaDoorV.PrintMore Go.Maps
set_option linter.unusedVariables false
set_option linter.unusedSimpArgs false
section
variable {H : Type} {P : Program} {R : Value → Option (DataW H × List MemPlace)} {k e t : TypeId} {w : World} {b : Nat} {es : Array MapEntry} {clock : Nat}
theorem set_twice (w : World) (b : Nat) (o1 o2 : Obj) : ({ ({ w with heap := w.heap.setIfInBounds b o1 } : World) with heap := (w.heap.setIfInBounds b o1).setIfInBounds b o2 } : World) = { w with heap := w.heap.setIfInBounds b o2 } := by
  simp [Array.setIfInBounds_setIfInBounds]
theorem run_entryStore {w : World} {es : Array MapEntry} (hb : w.heap[b]? = some (.map es clock)) (born : Int) (val : Value) (i : Nat) (hi : es.findIdx? (fun x => (x.born : Int) == born) = some i) :
    (Instr.entryStore t (.map (some b)) (.int .i64 born) val).run P w = .ok () { w with heap := w.heap.setIfInBounds b (.map (es.modify i fun x => { x with val := val }) clock) } := by
  have ha : (asInt (.int .i64 born)).run P w = .ok born w := rfl
  simp [Instr.entryStore, MapKept.run_getObj_map hb, ha, hi, MapKept.run_setObj_map _ hb, Result.andThen]
theorem entry_then_store (K : Keyed P k) (ht : P.underlying t = some (.map k e)) (hb : w.heap[b]? = some (.map es clock)) (F : Go.WideElems.Fit P k R es clock) {z : Value} (hz : (zeroValue e).run P w = .ok z w) {key val : Value} {kl : Lit} (hkey : keyOf P k key = some kl) {w2 : World}
    (hup : (Instr.mapUpdate t (.map (some b)) key val).run P w = .ok () w2) :
    ∃ (v : Value) (born : Int) (w1 : World), (Instr.mapEntry t (.map (some b)) key).run P w = .ok (.tuple #[v, .int .i64 born]) w1 ∧ (Instr.entryStore t (.map (some b)) (.int .i64 born) val).run P w1 = .ok () w2 := by
  rcases K.find w hkey es.toList F.keys with ⟨h1, h2⟩ | ⟨j, e0, h1, h2, h3⟩
  · have e2 : w2 = { w with heap := w.heap.setIfInBounds b (.map (es.push ⟨key, val, clock⟩) (clock + 1)) } := by
      simp [Instr.mapUpdate, run_underlying ht, MapKept.run_getObj_map hb, K.check w false hkey, h1, MapKept.run_setObj_map _ hb, Result.andThen] at hup
      exact hup.symm
    subst e2
    refine ⟨z, (clock : Int), { w with heap := w.heap.setIfInBounds b (.map (es.push ⟨key, z, clock⟩) (clock + 1)) }, ?_, ?_⟩
    · simp [Instr.mapEntry, run_underlying ht, MapKept.run_getObj_map hb, K.check w false hkey, h1, hz, MapKept.run_setObj_map _ hb, Result.andThen, goInt]
    · have hb1 : ({ w with heap := w.heap.setIfInBounds b (.map (es.push ⟨key, z, clock⟩) (clock + 1)) } : World).heap[b]? = some (.map (es.push ⟨key, z, clock⟩) (clock + 1)) := (MapKept.heap_set hb).1
      rw [run_entryStore hb1 (clock : Int) val es.size]
      · congr 1
        rw [show (es.push ⟨key, z, clock⟩).modify es.size (fun x => { x with val := val }) = es.push ⟨key, val, clock⟩ from ?_]
        · exact set_twice w b _ _
        · apply Array.ext
          · simp
          · intro i h1 h2
            simp only [Array.getElem_modify, Array.getElem_push]
            have hs : i < es.size + 1 := by simpa using h2
            by_cases hi : i = es.size
            · subst hi; simp
            · have : i < es.size := by omega
              simp [Ne.symm hi, this]
      · rw [Array.findIdx?_eq_some_iff_getElem]
        refine ⟨by simp, by simp, fun q hq => ?_⟩
        have hlt : (es[q]).born < clock := F.stamped.1 _ (by simp)
        simp only [Array.getElem_push, dif_pos hq]
        simp
        omega
  · have hj : es[j]? = some e0 := by simpa using h2
    have e2 : w2 = { w with heap := w.heap.setIfInBounds b (.map (es.modify j (fun e' => { e' with key := key, val := val })) clock) } := by
      simp [Instr.mapUpdate, run_underlying ht, MapKept.run_getObj_map hb, K.check w false hkey, h1, hj, h3, K.stays w hkey, MapKept.run_setObj_map _ hb, Result.andThen] at hup
      exact hup.symm
    subst e2
    have hjl : j < es.size := (Array.getElem?_eq_some_iff.mp hj).1
    have hej : es[j] = e0 := (Array.getElem?_eq_some_iff.mp hj).2
    refine ⟨e0.val, (e0.born : Int), { w with heap := w.heap.setIfInBounds b (.map (es.modify j (fun e' => { e' with key := key })) clock) }, ?_, ?_⟩
    · simp [Instr.mapEntry, run_underlying ht, MapKept.run_getObj_map hb, K.check w false hkey, h1, hj, h3, K.stays w hkey, MapKept.run_setObj_map _ hb, Result.andThen, goInt]
    · have hb1 : ({ w with heap := w.heap.setIfInBounds b (.map (es.modify j (fun e' => { e' with key := key })) clock) } : World).heap[b]? = some (.map (es.modify j (fun e' => { e' with key := key })) clock) := (MapKept.heap_set hb).1
      rw [run_entryStore hb1 (e0.born : Int) val j]
      · congr 1
        rw [show (es.modify j (fun e' => { e' with key := key })).modify j (fun x => { x with val := val }) = es.modify j (fun e' => { e' with key := key, val := val }) from ?_]
        · exact set_twice w b _ _
        · apply Array.ext
          · simp
          · intro i h1 h2
            simp only [Array.getElem_modify]
            by_cases hi : j = i
            · subst hi; simp
            · simp [hi]
      · rw [Array.findIdx?_eq_some_iff_getElem]
        refine ⟨by simpa using hjl, by simp [Array.getElem_modify, hej], fun q hq => ?_⟩
        have hql : q < es.size := by omega
        have hne : (es[q]).born ≠ e0.born := by
          intro hh
          have hn : (es.toList.map (·.born)).Pairwise (· ≠ ·) := F.stamped.2.1
          have hpw := List.pairwise_iff_getElem.mp hn q j (by simpa using hql) (by simpa using hjl) hq
          simp [hej] at hpw
          exact hpw hh
        simp only [Array.getElem_modify]
        rw [if_neg (by omega)]
        have hne2 : ¬ ((es[q]).born : Int) = (e0.born : Int) := fun h => hne (by omega)
        simpa using hne2
end
theorem plainElem_bool_inv {H : Type} {P : Program} {e : TypeId} (he : P.underlying e = some .bool) {v : Value} {z : DataW H × List MemPlace} (h : plainElem P e v = some z) : ∃ a, v = .bool a ∧ z = (.lit (.bool a), []) := by
  unfold plainElem at h
  rw [he] at h
  cases v <;> simp at h
  exact ⟨_, rfl, h.symm⟩
/-- Block b: a map of bools, of at most n entries, that holds true at each number of xs. -/
def IsSub (P : Program) (w : World) (b n : Nat) (xs : List Int) : Prop :=
  ∃ D : DataW Unit, w.ownsMap P 3 (plainElem P 4) b n D ∧ Go.Maps.IsMap D ∧ (∀ x : Int, ∃ c : Bool, D.atKey (.int .i64 x) (.lit (.bool false)) = .lit (.bool c)) ∧ ∀ x ∈ xs, D.atKey (.int .i64 x) (.lit (.bool false)) = .lit (.bool true)
theorem IsSub.new (P : Program) (w : World) : IsSub P (w.alloc (.map #[] 0)) w.heap.size 0 [] :=
  ⟨_, World.ownsMap_made _ _ _ _, Go.Maps.isMap_empty, fun x => ⟨false, by simp [DataW.atKey]⟩, fun x hx => by cases hx⟩
theorem IsSub.kept {P : Program} {w w1 : World} {b n : Nat} {xs : List Int} {row : Option Nat} (h : IsSub P w b n xs) (hg : w.grownBy w1 row) (hne : some b ≠ row) : IsSub P w1 b n xs := by
  obtain ⟨D, ho, hm, h1, h2⟩ := h
  exact ⟨D, ho.kept hg hne, hm, h1, h2⟩
theorem IsSub.below {P : Program} {w w1 : World} {b n : Nat} {xs : List Int} (h : IsSub P w b n xs) (hb : Below w.heap.size w w1) : IsSub P w1 b n xs := h.kept (grown_of_below hb none) (by simp)
theorem IsSub.less {P : Program} {w : World} {b n : Nat} {xs ys : List Int} (h : IsSub P w b n xs) (hs : ∀ y ∈ ys, y ∈ xs) : IsSub P w b n ys := by
  obtain ⟨D, ho, hm, h1, h2⟩ := h
  exact ⟨D, ho, hm, h1, fun y hy => h2 y (hs y hy)⟩
theorem IsSub.lt {P : Program} {w : World} {b n : Nat} {xs : List Int} (h : IsSub P w b n xs) : b < w.heap.size := by
  obtain ⟨D, ho, _⟩ := h
  exact ho.lt
theorem sub_put {D : DataW Unit} {xs : List Int} (hm : Go.Maps.IsMap D) (h1 : ∀ x : Int, ∃ c : Bool, D.atKey (.int .i64 x) (.lit (.bool false)) = .lit (.bool c)) (h2 : ∀ x ∈ xs, D.atKey (.int .i64 x) (.lit (.bool false)) = .lit (.bool true)) (n : Int) :
    (∀ x : Int, ∃ c : Bool, (D.put (.int .i64 n) (.lit (.bool true))).atKey (.int .i64 x) (.lit (.bool false)) = .lit (.bool c)) ∧ ∀ x ∈ xs ++ [n], (D.put (.int .i64 n) (.lit (.bool true))).atKey (.int .i64 x) (.lit (.bool false)) = .lit (.bool true) := by
  have same : (D.put (.int .i64 n) (.lit (.bool true))).atKey (.int .i64 n) (.lit (.bool false)) = .lit (.bool true) := Go.Maps.atKey_put_same hm (by simp [WideAt.IsKeyLit]) _ _
  have other : ∀ x : Int, x ≠ n → (D.put (.int .i64 n) (.lit (.bool true))).atKey (.int .i64 x) (.lit (.bool false)) = D.atKey (.int .i64 x) (.lit (.bool false)) := fun x hx => Go.Maps.atKey_put_other (fun h => hx (by injection h)) _ _
  constructor
  · intro x
    by_cases hx : x = n
    · subst hx; exact ⟨true, same⟩
    · rw [other x hx]; exact h1 x
  · intro x hx
    by_cases hn : x = n
    · subst hn; exact same
    · rw [other x hn]
      rw [List.mem_append, List.mem_singleton] at hx
      exact h2 x (hx.resolve_right hn)
theorem IsSub.update {P : Program} (h3 : P.underlying 3 = some (.int .i64)) (h4 : P.underlying 4 = some .bool) (h44 : P.underlying 44 = some (.map 3 4)) {w : World} {b c : Nat} {xs : List Int} (h : IsSub P w b c xs) (hc : c < 1000) (n : Int) (hw : (Lit.int .i64 n).wf = true) :
    ∃ w', (Instr.mapUpdate 44 (.map (some b)) (.int .i64 n) (.bool true)).run P w = .ok () w' ∧ IsSub P w' b (c + 1) (xs ++ [n]) ∧ w.grownBy w' (some b) := by
  obtain ⟨D, ho, hm, h1, h2⟩ := h
  obtain ⟨w', r1, r2, r3⟩ := ho.update (Go.Maps.int_keyed h3) h44 (by unfold maxLen; omega) (keyN h3 n hw) (plainElem_bool h4 true)
  obtain ⟨g1, g2⟩ := sub_put hm h1 h2 n
  exact ⟨w', r1, ⟨_, r2, hm.put _ _, g1, g2⟩, r3⟩
theorem IsSub.entry {P : Program} (h3 : P.underlying 3 = some (.int .i64)) (h4 : P.underlying 4 = some .bool) (h44 : P.underlying 44 = some (.map 3 4)) (hz : ∀ w, (zeroValue 4).run P w = .ok (.bool false) w) {w : World} {b c : Nat} {xs : List Int} (h : IsSub P w b c xs) (hc : c < 1000) (n : Int) (hw : (Lit.int .i64 n).wf = true) :
    ∃ (v : Value) (born : Int) (w1 w2 : World), (Instr.mapEntry 44 (.map (some b)) (.int .i64 n)).run P w = .ok (.tuple #[v, .int .i64 born]) w1 ∧ (Instr.entryStore 44 (.map (some b)) (.int .i64 born) (.bool true)).run P w1 = .ok () w2 ∧ IsSub P w2 b (c + 1) (xs ++ [n]) ∧ w.grownBy w2 (some b) := by
  obtain ⟨w2, r1, r2, r3⟩ := h.update h3 h4 h44 hc n hw
  obtain ⟨D, ⟨es, clock, hb, F, _⟩, _⟩ := h
  obtain ⟨v, born, w1, e1, e2⟩ := entry_then_store (Go.Maps.int_keyed h3) h44 hb F (hz w) (keyN h3 n hw) r1
  exact ⟨v, born, w1, w2, e1, e2, r2, r3⟩
section
variable {P : Program} {ops : Array Oper} {rest : List Oper} {o : Oper} {a : Act} {Q : Exit → Act → World → Prop}
theorem update_sub (w : World) (hg : o.guard = none) (m x v : Operand) (hop : o.op = Op.mapUpdate 44 m x v ∨ o.op = Op.insert 44 m x v) (h3 : P.underlying 3 = some (.int .i64)) (h4 : P.underlying 4 = some .bool) (h44 : P.underlying 44 = some (.map 3 4)) (b c : Nat) (xs : List Int)
    (hm : a.eval m = .map (some b)) (h : IsSub P w b c xs) (hc : c < 1000) (n : Int) (hx : a.eval x = .int .i64 n) (hw : (Lit.int .i64 n).wf = true) (hv : a.eval v = .bool true)
    (hK : ∀ w', IsSub P w' b (c + 1) (xs ++ [n]) → w.grownBy w' (some b) → wpList P ops Q rest (a.put o.dst undef) w') : wpList P ops Q (o :: rest) a w := by
  obtain ⟨w', hrun, r1, r2⟩ := h.update h3 h4 h44 hc n hw
  refine wpList_plain hg fun K' hK' => ?_
  unfold Oper.wp
  rcases hop with hop | hop
  · simp [execOp, hop, hm, hx, hv, hrun, Result.andThen]
    exact hK' _ _ (hK w' r1 r2)
  · simp [execOp, hop, hm, hx, hv, hrun, Result.andThen]
    exact hK' _ _ (hK w' r1 r2)
theorem lookup_sub (w : World) (hg : o.guard = none) (m x : Operand) (hop : o.op = Op.lookup 44 m x false) (h3 : P.underlying 3 = some (.int .i64)) (h4 : P.underlying 4 = some .bool) (h44 : P.underlying 44 = some (.map 3 4)) (hz : (zeroValue 4).run P w = .ok (.bool false) w) (b c : Nat) (xs : List Int)
    (hm : a.eval m = .map (some b)) (h : IsSub P w b c xs) (n : Int) (hx : a.eval x = .int .i64 n) (hw : (Lit.int .i64 n).wf = true) (d : Bool) (hd : ∀ D : DataW Unit, w.ownsMap P 3 (plainElem P 4) b c D → D.atKey (.int .i64 n) (.lit (.bool false)) = .lit (.bool d))
    (hK : wpList P ops Q rest (a.put o.dst (.bool d)) w) : wpList P ops Q (o :: rest) a w := by
  obtain ⟨D, ho, _⟩ := h
  refine wpList_plain hg fun K' hK' => ?_
  obtain ⟨v, ps, hrun, hv⟩ := ho.lookup (Go.Maps.int_keyed h3) h44 hz (plainElem_bool h4 false) (keyN h3 n hw)
  obtain ⟨c', rfl, hc⟩ := plainElem_bool_inv h4 hv
  simp only [Prod.mk.injEq] at hc
  rw [hd D ho] at hc
  have hcc : d = c' := by have := hc.1; injection this with h1; injection h1
  subst hcc
  unfold Oper.wp
  simp [execOp, hop, hm, hx, hrun, Result.andThen]
  exact hK' _ _ hK
end
/-- What a look-up tells: some bool, and true at each number of xs. -/
theorem IsSub.tells {P : Program} {w : World} {b c : Nat} {xs : List Int} (h : IsSub P w b c xs) (n : Int) : ∃ d : Bool, (n ∈ xs → d = true) ∧ ∀ D : DataW Unit, w.ownsMap P 3 (plainElem P 4) b c D → D.atKey (.int .i64 n) (.lit (.bool false)) = .lit (.bool d) := by
  obtain ⟨D, ⟨es, clock, hb, F, hs, rfl⟩, hm, h1, h2⟩ := h
  obtain ⟨d, hd⟩ := h1 n
  refine ⟨d, fun hn => ?_, fun D' hD' => ?_⟩
  · have := h2 n hn
    rw [hd] at this
    injection this with h1; injection h1
  · obtain ⟨es', clock', hb', _, _, rfl⟩ := hD'
    rw [hb] at hb'
    injection hb' with hb'
    injection hb' with e1 _
    subst e1
    exact hd
theorem tmod_nat (k : Int) (h : 0 ≤ k) (n : Nat) (hn : 0 < n) : ∃ r : Nat, r < n ∧ k.tmod n = (r : Int) := by
  obtain ⟨a, rfl⟩ := Int.eq_ofNat_of_zero_le h
  exact ⟨a % n, Nat.mod_lt _ hn, rfl⟩
def stepOf (s : S43) : List Int := [s.f0, s.f2] ++ (if s.f1 = 66 ∨ s.f1 = 68 ∨ s.f1 = 69 then [s.f3] else [])
def nextOf (R : List Int) (m : List S43) : List Int := m.flatMap fun s => if s.f0 ∈ R then stepOf s else []
def reach (m : List S43) (x : Int) : Nat → List Int
  | 0 => [x]
  | i + 1 => nextOf (reach m x i) m
theorem zero4 (w : World) : (zeroValue 4).run Tryd.prog w = .ok (.bool false) w := by kernel_rfl
end Go.Proofs.YtjheabcffkbfkaaDoor.T
