/- What an argument's data say of its cells and of what is read from them: numbers, structs, slices of such (in the printed texts' words). And the wrap of a law's walk for a row that lists tables and whose walk reads a variable of the library's own. -/
import Derived.Test.YtjheabcffkbfkaaDoorT0
import Derived.ChangeArms
import Derived.OpenShut
import Derived.DataReads
import Derived.HandedShaped
import Derived.Handed
import Derived.ChangeAgain
import Derived.Stop.LaidErr
namespace Go.Proofs.YtjheabcffkbfkaaDoor.T
open Go.RowKit Go.Proofs.YtjheabcffkbfkaaDoorV.PrintWords Go.Proofs.YtjheabcffkbfkaaDoorV.PrintLast Go.Proofs.YtjheabcffkbfkaaDoorV.PrintMore
set_option linter.unusedVariables false
set_option linter.unusedSimpArgs false
/-- Whatever reads as data of type t has cells of this kind, and of what is read Q holds. -/
def Opens {α : Type} (P : Program) (H : Type) (enc : TypeId × Value → H) (w : World) (base : Nat) (spare : Nat → Bool) (held : Bool) (d : Kd α) (t : TypeId) (Q : α → Prop) : Prop :=
  ∀ (fuel : Nat) (cs : List Value) (x : DataW H × List MemPlace), DataW.trod enc P w base spare held fuel t cs = some x → ∃ a : α, d.K w a cs ∧ Q a
section
variable {P : Program} {H : Type} {enc : TypeId × Value → H} {w : World} {base : Nat} {spare : Nat → Bool} {held : Bool}
theorem opens_int {t : TypeId} {k : IntKind} (ht : P.underlying t = some (.int k)) : Opens P H enc w base spare held (Kd.int k) t (fun n => (Lit.int k n).wf = true) := fun fuel cs x h => by
  obtain ⟨n, rfl, _, hw⟩ := DataW.trod_int ht h
  exact ⟨n, rfl, hw⟩
/-- A list in which each element is told, told as a list. -/
theorem list_of_each {α : Type} (R : Nat → α → Prop) : ∀ n, (∀ i, i < n → ∃ a, R i a) → ∃ xs : List α, xs.length = n ∧ ∀ i a, xs[i]? = some a → R i a
  | 0, _ => ⟨[], rfl, fun i a h => by simp at h⟩
  | n + 1, h => by
    obtain ⟨xs, hl, hx⟩ := list_of_each R n (fun i hi => h i (by omega))
    obtain ⟨a, ha⟩ := h n (by omega)
    refine ⟨xs ++ [a], by simp [hl], fun i b hb => ?_⟩
    rcases Nat.lt_trichotomy i n with hi | hi | hi
    · rw [List.getElem?_append_left (by omega)] at hb
      exact hx i b hb
    · subst hi
      rw [List.getElem?_append_right (by omega), hl] at hb
      simp at hb
      subst hb
      exact ha
    · rw [List.getElem?_eq_none (by simp; omega)] at hb
      cases hb
theorem opens_slice {α : Type} {d : Kd α} {t e : TypeId} {Q : α → Prop} (ht : P.underlying t = some (.slice e)) (hd : Opens P H enc w base spare held d e Q) (hs : P.cellsOf e = d.sz) : Opens P H enc w base spare held (Kd.slice e d) t (fun xs => ∀ x ∈ xs, Q x) := fun fuel cs x h => by
  rcases DataW.trod_slice ht h with ⟨rfl, _⟩ | ⟨a, len, cap, elems, rest, n, _, rfl, _, hb, hl, hm, hlen, hel, _, _⟩
  · exact ⟨[], ⟨none, 0, rfl, Nat.le_refl _, rfl, by simp, fun hp => by simp at hp⟩, fun y hy => by cases hy⟩
  · have each : ∀ i, i < len → ∃ y : α, Q y ∧ ∃ c, c.length = d.sz ∧ d.K w y c ∧ ∀ j u, c[j]? = some u → w.cell? (a.add (i * d.sz + j)) = some u := by
      intro i hi
      have h1 := hel i hi
      rw [List.getElem?_eq_getElem (by omega)] at h1
      obtain ⟨c, hc, h2⟩ := Option.bind_eq_some_iff.mp h1
      obtain ⟨y, hy, hq⟩ := hd _ _ _ h2
      obtain ⟨_, hcl, hcell⟩ := World.cells?_some hc
      rw [hs] at hcl hcell
      refine ⟨y, hq, c, hcl, hy, fun j u hj => ?_⟩
      have hjl : j < c.length := (List.getElem?_eq_some_iff.mp hj).1
      have h3 := hcell j (by omega)
      rw [hj, add_add] at h3
      exact h3
    obtain ⟨xs, hxl, hx⟩ := list_of_each _ len each
    refine ⟨xs, ⟨some a, cap, by rw [hxl], by omega, rfl, by unfold maxLen at hm; omega, fun _ => ⟨a, rfl, fun j p hj => ?_⟩⟩, fun y hy => ?_⟩
    · exact (hx j p hj).2
    · obtain ⟨i, hi, rfl⟩ := List.mem_iff_getElem.mp hy
      exact (hx i _ (List.getElem?_eq_getElem hi)).1
/-- A part of a row of cells is of this kind. -/
def Seg {α : Type} (w : World) (d : Kd α) (cs : List Value) (o : Nat) (Q : α → Prop) : Prop := o + d.sz ≤ cs.length ∧ ∃ a, d.K w a ((cs.drop o).take d.sz) ∧ Q a
theorem Seg.pair {α β : Type} {d : Kd α} {d' : Kd β} {cs : List Value} {o : Nat} {Q : α → Prop} {Q' : β → Prop} (h : Seg w d cs o Q) (h' : Seg w d' cs (o + d.sz) Q') : Seg w (Kd.pair d d') cs o (fun x => Q x.1 ∧ Q' x.2) := by
  obtain ⟨l, a, ha, qa⟩ := h
  obtain ⟨l', b, hb, qb⟩ := h'
  refine ⟨by show o + (d.sz + d'.sz) ≤ _; omega, (a, b), ⟨_, _, ?_, ha, hb⟩, qa, qb⟩
  show (cs.drop o).take (d.sz + d'.sz) = _
  rw [List.take_add, List.drop_drop]
theorem Seg.iso {α β : Type} {d : Kd α} {f : β → α} {cs : List Value} {o : Nat} {Q : α → Prop} (h : Seg w d cs o Q) (hf : ∀ a, ∃ b, f b = a) : Seg w (Kd.iso d f) cs o (fun b => Q (f b)) := by
  obtain ⟨l, a, ha, qa⟩ := h
  obtain ⟨b, rfl⟩ := hf a
  exact ⟨l, b, ha, qa⟩
theorem Seg.all {α : Type} {d : Kd α} {cs : List Value} {Q : α → Prop} (h : Seg w d cs 0 Q) (hl : cs.length = d.sz) : ∃ a, d.K w a cs ∧ Q a := by
  obtain ⟨_, a, ha, qa⟩ := h
  refine ⟨a, ?_, qa⟩
  rw [List.drop_zero, List.take_of_length_le (by omega)] at ha
  exact ha
/-- A struct's fields. -/
theorem seg_field {t : TypeId} {fs : Array Field} {fuel : Nat} {cs : List Value} {x : DataW H × List MemPlace} (ht : P.underlying t = some (.struct fs)) (h : DataW.trod enc P w base spare held fuel t cs = some x) (i : Nat) (f : Field) (hf : fs[i]? = some f) {α : Type} {d : Kd α} {Q : α → Prop} (hd : Opens P H enc w base spare held d f.type Q) (hs : P.cellsOf f.type = d.sz) (hl : f.offset + d.sz ≤ P.cellsOf t) : Seg w d cs f.offset Q := by
  obtain ⟨xs, n, _, _, hcl, hxl, hx⟩ := DataW.trod_struct ht h
  have hi : i < fs.size := (Array.getElem?_eq_some_iff.mp hf).1
  have h1 := hx i f hf
  rw [List.getElem?_eq_getElem (by omega)] at h1
  obtain ⟨a, ha, qa⟩ := hd _ _ _ h1
  rw [hs] at ha
  exact ⟨by omega, a, ha, qa⟩
theorem cells_struct {t : TypeId} {fs : Array Field} {fuel : Nat} {cs : List Value} {x : DataW H × List MemPlace} (ht : P.underlying t = some (.struct fs)) (h : DataW.trod enc P w base spare held fuel t cs = some x) : cs.length = P.cellsOf t := by
  obtain ⟨_, _, _, _, hcl, _⟩ := DataW.trod_struct ht h
  exact hcl
end
/-- The walk's wrap: what lies in a listed variable (X), the reach, and the world's shape. -/
theorem returns_and_shaped {H : Type} {enc : TypeId × Value → H} {a : Assume} {C : Checked} {os : Os} {f : FuncId} {fn : Func} {s : ChangeSpec} {conds : List PathCond} {apart fresh handsOn again : Bool} {X : World → Array Value → Prop}
    (hX : ∀ (w w' : World) (args : Array Value), w.heap = w'.heap → X w args → X w' args)
    (own : ownKnob C.prog.godebug = none) (started : os.Started) (noInit : C.prog.inits.idxOf? f = none) (hfn : C.prog.funcs[f]? = some fn)
    (witness : ∃ (w : World) (tape : Tape) (i : Input), w.os = os ∧ (w.forCall tape i).Shaped C.prog ∧ i.vars = [] ∧ Input.okWide C.prog (w.forCall tape i) .any w.heap.size f i ∧
      ((s.pre enc C.prog fn conds apart (w.forCall tape i).memory i.args ∧ X (w.forCall tape i).memory i.args) ∧ sizedMet enc C.prog fn (OpenSpec.ofChange s) apart (w.forCall tape i).memory i.args) ∧ a.holds C.prog (lone (Frame.enter C.prog f i.args .normal) [] (w.forCall tape i)))
    (contract : ∀ (W : World) (base : Nat) (args : Array Value) (ds gs : List (DataW H)) (before : List MemPlace),
      (∀ (j : Nat) t v, fn.params[j]? = some t → args[j]? = some v → Value.okWide C.prog W .any base t v) →
      DataW.Whole enc C.prog fn.params.toList s.vars apart W args.toList ds gs before →
      (DataW.weightsEach C.prog (fn.params.toList ++ s.plain.varTypes C.prog) (ds ++ gs)).all (· ≤ reachBytes) = true → X W args → W.ShapedOpen C.prog →
      Calls C.prog f args W fun e W' => ∃ v, e = .returned v ∧ s.post enc C.prog fn apart fresh handsOn again W args v W') :
    ReturnsInHanded a C os f .any (fun w args => (s.pre enc C.prog fn conds apart w args ∧ X w args) ∧ sizedMet enc C.prog fn (OpenSpec.ofChange s) apart w args) (s.post enc C.prog fn apart fresh handsOn again) := by
  refine returnsInHanded_of_calls own started noInit witness ?_
  intro w tape i _ hsh _ hok hpre hholds
  obtain ⟨_, _, _, fn', hfn', _, _, _, _, hval⟩ := hok
  have e : fn' = fn := Option.some.inj (hfn'.symm.trans hfn)
  subst e
  obtain ⟨⟨⟨ds, gs, before, hw, hc⟩, hx⟩, hz⟩ := hpre
  have hw' := DataW.Whole.of_heap (w' := w.forCall tape i) (by rfl) hw
  refine (contract (w.forCall tape i) w.heap.size i.args ds gs before hval hw' (hz.weights hw) (hX _ _ _ (by rfl) hx) hsh).mono fun e W' ⟨v, he, hp⟩ => ?_
  subst he
  exact ChangeSpec.post_blind hp
theorem shaped_below {P : Program} {W W' : World} (h : W.ShapedOpen P) (hb : Below W.heap.size W W') : W'.ShapedOpen P :=
  World.ShapedOpen.keptBut h (hb.frame (fun _ => False)) (fun _ h => h.elim)
end Go.Proofs.YtjheabcffkbfkaaDoor.T
