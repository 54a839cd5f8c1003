/- The plain functions of table.Leads, ends, Check, and what a map of numbers that the call itself has made holds. -/
import Derived.Test.YtjheabcffkbfkaaDoorT1
import Derived.Maps.Own
import Derived.Maps.OwnOps
import Derived.Maps.OwnSet
import Derived.Maps.Views
namespace Go.Proofs.YtjheabcffkbfkaaDoor.T
open Go.RowKit Go.Proofs.YtjheabcffkbfkaaDoorV.PrintWords Go.Proofs.YtjheabcffkbfkaaDoorV.PrintLast Go.Proofs.YtjheabcffkbfkaaDoorV.PrintMore
set_option linter.unusedVariables false
set_option linter.unusedSimpArgs false
def isO (k : Int) : Bool := decide (Lib.indexByte [66, 68, 69] k.toNat.toUInt8 ≥ 0)
def leadsOf (s : S43) : List Int := (if s.f1 = 90 then [] else [s.f2]) ++ (if isO s.f1 = true then [s.f3] else [])
theorem leads_f (s : S43) : table_Leads.f s.f0 s.f1 s.f2 s.f3 = some (leadsOf s) := by
  have h : table_is.f s.f1 (⟨#[66, 68, 69]⟩ : ByteArray) = some (isO s.f1) := rfl
  unfold table_Leads.f leadsOf
  by_cases h1 : s.f1 = 90 <;> cases h2 : isO s.f1 <;> simp [h, h1, h2]
  all_goals (rw [h1] at h; simp [h, h2, h1] at *)
  all_goals simp_all
theorem leads_len (s : S43) : (leadsOf s).length ≤ 2 := by
  unfold leadsOf
  split <;> split <;> simp
def ids (l : List S43) : List Int := l.map (·.f0)
def posOf (xs : List Int) (n : Int) : Nat := xs.idxOf n
def relax1 (xs : List Int) (i : Nat) (out : List Bool) (n : Int) : List Bool := out.set i (out.getD i false || out.getD (posOf xs n) false)
def relax (l : List S43) (i : Nat) (out : List Bool) : List Bool := (leadsOf (rd_T43 l i)).foldl (relax1 (ids l) i) (if (rd_T43 l i).f1 = 90 then out.set i true else out)
/-- d places more, from i. -/
def sweep (l : List S43) : Nat → Nat → List Bool → List Bool
  | 0, _, out => out
  | d + 1, i, out => sweep l d (i + 1) (relax l i out)
def sweeps (l : List S43) : Nat → List Bool → List Bool
  | 0, out => out
  | d + 1, out => sweeps l d (sweep l l.length 0 out)
def endsOf (l : List S43) : List Bool := sweeps l l.length (List.replicate l.length false)
def chkC (out : List Bool) : Nat → Nat → Int × Int
  | 0, _ => (0, 0)
  | d + 1, j => if out.getD j false = true then chkC out d (j + 1) else ((j : Int), 30)
def leadsIn (xs : List Int) : List Int → Bool
  | [] => true
  | n :: r => decide (n ∈ xs) && leadsIn xs r
def chkB (l : List S43) : Nat → Nat → Int × Int
  | 0, _ => chkC (endsOf l) l.length 0
  | d + 1, j => if leadsIn (ids l) (leadsOf (rd_T43 l j)) = true then chkB l d (j + 1) else ((j : Int), 32)
def chkA (l : List S43) : Nat → Nat → Int × Int
  | 0, _ => chkB l l.length 0
  | d + 1, j => if (rd_T43 l j).f0 ∈ (ids l).take j then ((j : Int), 31) else chkA l d (j + 1)
def okS (s : S43) : Bool := (Lit.int .i64 s.f0).wf && (Lit.int .i64 s.f2).wf && (Lit.int .i64 s.f3).wf
theorem relax1_len (xs : List Int) (i : Nat) (out : List Bool) (n : Int) : (relax1 xs i out n).length = out.length := by simp [relax1]
theorem foldl_len (xs : List Int) (i : Nat) : ∀ (ns : List Int) (out : List Bool), (ns.foldl (relax1 xs i) out).length = out.length
  | [], _ => rfl
  | n :: r, out => by rw [List.foldl_cons, foldl_len xs i r, relax1_len]
theorem relax_len (l : List S43) (i : Nat) (out : List Bool) : (relax l i out).length = out.length := by
  unfold relax
  rw [foldl_len]
  split <;> simp
theorem sweep_len (l : List S43) : ∀ d i out, (sweep l d i out).length = out.length
  | 0, _, _ => rfl
  | d + 1, i, out => by rw [sweep, sweep_len l d, relax_len]
theorem sweeps_len (l : List S43) : ∀ d out, (sweeps l d out).length = out.length
  | 0, _ => rfl
  | d + 1, out => by rw [sweeps, sweeps_len l d, sweep_len]
theorem ends_len (l : List S43) : (endsOf l).length = l.length := by rw [endsOf, sweeps_len, List.length_replicate]

theorem keyN {P : Program} {k : TypeId} (hk : P.underlying k = some (.int .i64)) (n : Int) (h : (Lit.int .i64 n).wf = true) : keyOf P k (.int .i64 n) = some (.int .i64 n) := Go.Maps.keyOf_int_mk hk h
/-- Block b: the map of the places of the numbers xs (no number twice). -/
def IsAt (P : Program) (w : World) (b : Nat) (xs : List Int) : Prop :=
  ∃ D : DataW Unit, w.ownsMap P 3 (plainElem P 3) b xs.length D ∧ Go.Maps.IsMap D ∧ ∀ (n : Int) (z : DataW Unit), D.atKey (.int .i64 n) z = if n ∈ xs then .lit (.int .i64 (posOf xs n : Int)) else z
theorem IsAt.new (P : Program) (w : World) : IsAt P (w.alloc (.map #[] 0)) w.heap.size [] :=
  ⟨_, World.ownsMap_made _ _ _ _, Go.Maps.isMap_empty, fun n z => by simp [DataW.atKey]⟩
theorem posOf_snoc_old (xs : List Int) (x n : Int) (h : n ∈ xs) : posOf (xs ++ [x]) n = posOf xs n := by
  unfold posOf
  rw [List.idxOf_append, if_pos h]
theorem posOf_snoc_new (xs : List Int) (x : Int) (h : x ∉ xs) : posOf (xs ++ [x]) x = xs.length := by
  unfold posOf
  rw [List.idxOf_append, if_neg h]
  simp
theorem posOf_lt (xs : List Int) (n : Int) (h : n ∈ xs) : posOf xs n < xs.length := List.idxOf_lt_length_of_mem h
theorem at_put {D : DataW Unit} {xs : List Int} (hm : Go.Maps.IsMap D) (h : ∀ (n : Int) (z : DataW Unit), D.atKey (.int .i64 n) z = if n ∈ xs then .lit (.int .i64 (posOf xs n : Int)) else z) (x : Int) (hx : x ∉ xs) :
    ∀ (n : Int) (z : DataW Unit), (D.put (.int .i64 x) (.lit (.int .i64 (xs.length : Int)))).atKey (.int .i64 n) z = if n ∈ xs ++ [x] then .lit (.int .i64 (posOf (xs ++ [x]) n : Int)) else z := by
  intro n z
  by_cases hn : n = x
  · subst hn
    rw [Go.Maps.atKey_put_same hm (by simp [WideAt.IsKeyLit]), if_pos (by simp), posOf_snoc_new _ _ hx]
  · rw [Go.Maps.atKey_put_other (fun h => hn (by injection h)), h]
    by_cases hi : n ∈ xs
    · rw [if_pos hi, if_pos (by simp [hi]), posOf_snoc_old _ _ _ hi]
    · rw [if_neg hi, if_neg (by simp [hi, hn])]
theorem at_has {D : DataW Unit} {xs : List Int} (h : ∀ (n : Int) (z : DataW Unit), D.atKey (.int .i64 n) z = if n ∈ xs then .lit (.int .i64 (posOf xs n : Int)) else z) (n : Int) : Go.Maps.has D (.int .i64 n) = decide (n ∈ xs) := by
  by_cases hn : n ∈ xs
  · rw [decide_eq_true hn]
    exact Go.Maps.has_true_of_atKey (y := .lit (.int .i64 (posOf xs n : Int))) (fun z => by rw [h, if_pos hn])
  · rw [decide_eq_false hn]
    exact Go.Maps.has_false_of_atKey (fun z => by rw [h, if_neg hn])
theorem IsAt.below {P : Program} {w w1 : World} {b : Nat} {xs : List Int} (h : IsAt P w b xs) (hb : Below w.heap.size w w1) : IsAt P w1 b xs := by
  obtain ⟨D, ho, hm, ha⟩ := h
  exact ⟨D, ho.kept (grown_of_below hb none) (by simp), hm, ha⟩
theorem IsAt.grown {P : Program} {w w1 : World} {b : Nat} {xs : List Int} {row : Option Nat} (h : IsAt P w b xs) (hg : w.grownBy w1 row) (hne : some b ≠ row) : IsAt P w1 b xs := by
  obtain ⟨D, ho, hm, ha⟩ := h
  exact ⟨D, ho.kept hg hne, hm, ha⟩
/-- A map's block is no row's. -/
theorem IsAt.ne {P : Program} {w : World} {b : Nat} {xs : List Int} (h : IsAt P w b xs) {g t : Nat} {cells : Array Value} (hg : w.heap[g]? = some (.cells cells t (0, 0))) : b ≠ g := by
  obtain ⟨D, ⟨es, clock, hb, _⟩, _, _⟩ := h
  rintro rfl
  rw [hg] at hb
  cases hb
end Go.Proofs.YtjheabcffkbfkaaDoor.T
