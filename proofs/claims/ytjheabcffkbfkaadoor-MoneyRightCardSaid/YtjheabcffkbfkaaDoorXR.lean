/- guichet/money.Right by hand: which configurations are right: its map of the accounts seen (a map of bools that the call itself has made). -/
import Derived.Test.YtjheabcffkbfkaaDoorX0
import Derived.Test.YtjheabcffkbfkaaDoorX1
import Derived.Maps.Own
import Derived.Maps.OwnOps
import Derived.Maps.Views
namespace Go.Proofs.YtjheabcffkbfkaaDoor.X
open Go.RowKit Go.Proofs.YtjheabcffkbfkaaDoorW.PrintWords Go.Proofs.YtjheabcffkbfkaaDoorW.PrintLast Go.Proofs.YtjheabcffkbfkaaDoorW.PrintMore
set_option linter.unusedVariables false
set_option linter.unusedSimpArgs false

theorem plainElem_bool_inv {H : Type} {P : Program} {e : TypeId} (he : P.underlying e = some .bool) {v : Value} {z : DataW H × List MemPlace} (h : plainElem P e v = some z) : ∃ a, v = .bool a ∧ z = (.lit (.bool a), []) := by
  unfold plainElem at h
  rw [he] at h
  cases v <;> simp at h
  exact ⟨_, rfl, h.symm⟩

/-- 'm[k]' (without 'ok') at elements that are bools. -/
theorem wpList_lookup_own_bool {H : Type} {P : Program} (w : World) {ops : Array Oper} {rest : List Oper} {o : Oper} {a : Act} {Q : Exit → Act → World → Prop}
    (hg : o.guard = none) (m x : Operand) (t : TypeId) (hop : o.op = Op.lookup t m x false)
    (k e : TypeId) (K : Go.Maps.Keyed P k) (ht : P.underlying t = some (.map k e)) (he : P.underlying e = some .bool) (hz : (zeroValue e).run P w = .ok (.bool false) w) (b n : Nat) (D : DataW H)
    (hm : a.eval m = .map (some b)) (hown : w.ownsMap P k (plainElem P e) b n D) (key : Value) (kl : Lit) (hx : a.eval x = key) (hkey : keyOf P k key = some kl)
    (c : Bool) (hat : D.atKey kl (.lit (.bool false)) = .lit (.bool c))
    (hK : wpList P ops Q rest (a.put o.dst (.bool c)) w) :
    wpList P ops Q (o :: rest) a w := by
  refine wpList_plain hg fun K' hK' => ?_
  obtain ⟨v, ps, hrun, hv⟩ := hown.lookup K ht hz (plainElem_bool he false) hkey
  obtain ⟨c', rfl, hc⟩ := plainElem_bool_inv he hv
  simp only [Prod.mk.injEq] at hc
  rw [hat] at hc
  have hcc : c = c' := by have := hc.1; injection this with h1; injection h1
  subst hcc
  unfold Oper.wp
  simp [execOp, hop, hm, hx, hrun, Result.andThen]
  exact hK' _ _ hK

def keyL (s : ByteArray) : Lit := .string s.data.toList
theorem keyL_inj {a b : ByteArray} (h : keyL a = keyL b) : a = b := by
  unfold keyL at h
  injection h with h
  cases a; cases b
  simp only [Array.toList_inj] at h ⊢
  rw [h]

def seenIn (xs : List ByteArray) (s : ByteArray) : Bool := xs.any fun x => decide (x.data = s.data)
/-- Block b is a map of at most n entries that holds true for just the texts of xs. -/
def IsSet (P : Program) (k e : TypeId) (w : World) (b n : Nat) (xs : List ByteArray) : Prop :=
  ∃ D : DataW Unit, w.ownsMap P k (plainElem P e) b n D ∧ Go.Maps.IsMap D ∧ ∀ s : ByteArray, D.atKey (keyL s) (.lit (.bool false)) = .lit (.bool (seenIn xs s))
theorem IsSet.new (P : Program) (k e : TypeId) (w : World) : IsSet P k e (w.alloc (.map #[] 0)) w.heap.size 0 [] :=
  ⟨_, World.ownsMap_made _ _ _ _, Go.Maps.isMap_empty, fun s => by simp [DataW.atKey, seenIn]⟩
theorem put_set {D : DataW Unit} {xs : List ByteArray} (hm : Go.Maps.IsMap D) (h : ∀ s : ByteArray, D.atKey (keyL s) (.lit (.bool false)) = .lit (.bool (seenIn xs s))) (x : ByteArray) :
    ∀ s : ByteArray, (D.put (keyL x) (.lit (.bool true))).atKey (keyL s) (.lit (.bool false)) = .lit (.bool (seenIn (xs ++ [x]) s)) := by
  intro s
  by_cases hs : s = x
  · subst hs
    rw [Go.Maps.atKey_put_same hm (by simp [keyL, WideAt.IsKeyLit])]
    simp [seenIn]
  · rw [Go.Maps.atKey_put_other (fun h => hs (keyL_inj h)), h s]
    have hd : ¬ x.data = s.data := fun h => hs (by cases s; cases x; simp at h; rw [h])
    simp [seenIn, hd]

def badB (t0 : List S31) (t1 : List ByteArray) (t2 : List Int) (m a4 : Int) : Bool :=
  decide (8 < t0.length) || !decide (t2.length = t1.length) || decide (64 < t1.length) || decide (m < 1) || decide (1000000 < a4) || decide (a4 < m)
def money_Right.l1 : Nat → Nat → List ByteArray → List Int → Option Bool
  | 0, _, _, _ => none
  | k + 1, j, t1, t2 => if j < t1.length then
      (if (rdOf ByteArray.empty t1 j).size < 1 then some false else if 19 < (rdOf ByteArray.empty t1 j).size then some false else
        (frame_Digits.f k (rdOf ByteArray.empty t1 j)).bind fun d => if d = true then
          (if seenIn (t1.take j) (rdOf ByteArray.empty t1 j) = true then some false else if rd t2 j < 0 then some false else if 1000000000000 < rd t2 j then some false
            else money_Right.l1 k (j + 1) t1 t2)
        else some false)
    else some true
def cassOf (k : Nat) (x : S31) : Option Bool := money_cassettes.f k x.f0.f0 x.f0.f1 x.f0.f2 x.f0.f3 x.f1.f0 x.f1.f1 x.f1.f2 x.f1.f3 x.f2.f0 x.f2.f1 x.f2.f2 x.f2.f3 x.f3.f0 x.f3.f1 x.f3.f2 x.f3.f3
def money_Right.l0 : Nat → Nat → List S31 → List ByteArray → List Int → Option Bool
  | 0, _, _, _, _ => none
  | k + 1, j, t0, t1, t2 => if j < t0.length then ((cassOf k (rd_T31 t0 j)).bind fun d => if d = true then money_Right.l0 k (j + 1) t0 t1 t2 else some false) else money_Right.l1 k 0 t1 t2
def money_Right.f (k : Nat) (t0 : List S31) (t1 : List ByteArray) (t2 : List Int) (m a4 : Int) : Option Bool :=
  if badB t0 t1 t2 m a4 = true then some false else money_Right.l0 k 0 t0 t1 t2
theorem money_Right.mono1 : ∀ k j t1 t2, LeO (money_Right.l1 k j t1 t2) (money_Right.l1 (k + 1) j t1 t2)
  | 0, _, _, _ => fun r h => by simp [money_Right.l1] at h
  | k + 1, j, t1, t2 => by
    have ih := money_Right.mono1 k
    unfold money_Right.l1
    repeat' first
      | (with_reducible exact ih _ _ _)
      | (with_reducible exact frame_Digits.mono _ _)
      | (with_reducible exact LeO.refl _)
      | (with_reducible refine LeO.ite ?_ ?_)
      | (with_reducible refine LeO.bind ?_ (fun _ => ?_))
theorem money_Right.mono0 : ∀ k j t0 t1 t2, LeO (money_Right.l0 k j t0 t1 t2) (money_Right.l0 (k + 1) j t0 t1 t2)
  | 0, _, _, _, _ => fun r h => by simp [money_Right.l0] at h
  | k + 1, j, t0, t1, t2 => by
    have ih := money_Right.mono0 k
    unfold money_Right.l0 cassOf
    repeat' first
      | (with_reducible exact ih _ _ _ _)
      | (with_reducible exact money_Right.mono1 _ _ _ _)
      | (with_reducible exact money_cassettes.mono _ _ _ _ _ _ _ _ _ _ _ _ _ _ _ _ _)
      | (with_reducible exact LeO.refl _)
      | (with_reducible refine LeO.ite ?_ ?_)
      | (with_reducible refine LeO.bind ?_ (fun _ => ?_))
theorem money_Right.mono : ∀ t0 t1 t2 m a4 k, LeO (money_Right.f k t0 t1 t2 m a4) (money_Right.f (k + 1) t0 t1 t2 m a4) := by
  intro t0 t1 t2 m a4 k
  unfold money_Right.f
  exact LeO.ite (LeO.refl _) (money_Right.mono0 _ _ _ _ _)

set_option maxHeartbeats 8000000 in
set_option maxRecDepth 100000 in
theorem money_Right.calls (k : Nat) (P0 : Option Addr) (c0_0 : Nat) (t0 : List (S31)) (P1 : Option Addr) (c0_1 : Nat) (t1 : List ByteArray) (P2 : Option Addr) (c0_2 : Nat) (t2 : List Int) (m : Int) (a4 : Int) (r : Bool) (w : World) (hr0_0 : Kd.C k31 w P0 t0.length t0) (hc0_0 : t0.length ≤ c0_0) (hr0_1 : Kd.C Kd.string w P1 t1.length t1) (hc0_1 : t1.length ≤ c0_1) (hr0_2 : Kd.C (Kd.int .i64) w P2 t2.length t2) (hc0_2 : t2.length ≤ c0_2) (h : money_Right.f k t0 t1 t2 m a4 = some r) :
    Calls Tryd.prog 7 #[.agg #[.slice P0 t0.length c0_0, .slice P1 t1.length c0_1, .slice P2 t2.length c0_2, .int .i64 m, .int .i64 a4]] w fun e w' => e = .returned (.bool r) ∧ Below w.heap.size w w' := by
  have hu26 := Tryd.underlying26
  have hu30 := Tryd.underlying30
  have hu31 := Tryd.underlying31
  have HR0_0 := Aside0.mk hr0_0
  have HC0_0 := Aside0.mk hc0_0
  clear hr0_0 hc0_0
  have HR0_1 := Aside0.mk hr0_1
  have HC0_1 := Aside0.mk hc0_1
  clear hr0_1 hc0_1
  have HR0_2 := Aside0.mk hr0_2
  have HC0_2 := Aside0.mk hc0_2
  clear hr0_2 hc0_2
  have HB := Aside0.mk (Below.refl w.heap.size w)
  have HF := Aside0.mk h
  clear h
  go_enter Tryd.func7, Tryd.ntmps7
  go_upto_region 1 with (first | ((with_reducible refine gate_dst (N := 1) rfl ?_); (try (refine gate_guard (by rfl) ?_; dsimp only)); refine box_event ?hg (N := 1) ?hd (cs := #[.slice P0 t0.length c0_0, .slice P1 t1.length c0_1, .slice P2 t2.length c0_2, .int .i64 m, .int .i64 a4]) (t := 26) ?hr ?_; (case hd => rfl); (case hg => rfl); (case hr => first | (go_simp; done) | (go_simp; rfl)); intro g hg w3 hbox hb; have n0_ := Aside0.mk (below_step (by exact HB.out) hb); have n1_ := Aside0.mk (hbox); have n2_ := Aside0.mk ((by rw [hg]; exact Nat.le_refl _) : w.heap.size ≤ g); clear HB; have HB := n0_; have K := n1_; have E := n2_; clear n0_ n1_ n2_; clear hb hbox hg))
  (try simp only [Act.put, List.setIfInBounds_toArray, List.set_cons_zero, List.set_cons_succ])
  go_cut [43] (fun v43 wc => v43 = .bool (badB t0 t1 t2 m a4) ∧ Aside0 (wc.heap[g]? = some (.cells #[(.slice P0 t0.length c0_0), (.slice P1 t1.length c0_1), (.slice P2 t2.length c0_2), .int .i64 m, .int .i64 a4] 26 (0, 0))) ∧ Aside0 (Below w.heap.size w wc))
  case first =>
    have hcz0 : w3.cell? ⟨g, 0, none⟩ = some (.slice P0 t0.length c0_0) := (blk_cell K.out 0).trans rfl
    have hcz1 : w3.cell? ⟨g, 1, none⟩ = some (.slice P1 t1.length c0_1) := (blk_cell K.out 1).trans rfl
    have hcz2 : w3.cell? ⟨g, 2, none⟩ = some (.slice P2 t2.length c0_2) := (blk_cell K.out 2).trans rfl
    have hcz3 : w3.cell? ⟨g, 3, none⟩ = some (.int .i64 m) := (blk_cell K.out 3).trans rfl
    have hcz4 : w3.cell? ⟨g, 4, none⟩ = some (.int .i64 a4) := (blk_cell K.out 4).trans rfl
    by_cases c1 : 8 < t0.length
    · have c1a : decide (8 < (t0.length : Int)) = true := decide_eq_true (by omega)
      have c1b : decide (8 < t0.length) = true := decide_eq_true c1
      have hv : badB t0 t1 t2 m a4 = true := by simp [badB, c1]
      clear c1
      go_wp2
      go_meet
      case rel => exact ⟨by rw [hv], ⟨K.out⟩, ⟨HB.out⟩⟩
    have c1a : decide (8 < (t0.length : Int)) = false := decide_eq_false (by omega)
    have c1b : decide (8 < t0.length) = false := decide_eq_false c1
    by_cases c2 : t2.length = t1.length
    case neg =>
      have c2a : ((t2.length : Int) == (t1.length : Int)) = false := beq_eq_false_iff_ne.mpr (by omega)
      have c2c : ((t2.length : Int) != (t1.length : Int)) = true := bne_iff_ne.mpr (by omega)
      have c2b : (t2.length == t1.length) = false := beq_eq_false_iff_ne.mpr c2
      have hv : badB t0 t1 t2 m a4 = true := by simp [badB, c2]
      clear c1 c2
      go_wp2
      go_meet
      case rel => exact ⟨by rw [hv], ⟨K.out⟩, ⟨HB.out⟩⟩
    have c2a : ((t2.length : Int) == (t1.length : Int)) = true := beq_iff_eq.mpr (by omega)
    have c2c : ((t2.length : Int) != (t1.length : Int)) = false := bne_eq_false_iff_eq.mpr (by omega)
    have c2b : (t2.length == t1.length) = true := beq_iff_eq.mpr c2
    by_cases c3 : 64 < t1.length
    · have c3a : decide (64 < (t1.length : Int)) = true := decide_eq_true (by omega)
      have c3b : decide (64 < t1.length) = true := decide_eq_true c3
      have hv : badB t0 t1 t2 m a4 = true := by simp [badB, c3]
      clear c1 c2 c3
      go_wp2
      go_meet
      case rel => exact ⟨by rw [hv], ⟨K.out⟩, ⟨HB.out⟩⟩
    have c3a : decide (64 < (t1.length : Int)) = false := decide_eq_false (by omega)
    have c3b : decide (64 < t1.length) = false := decide_eq_false c3
    by_cases c4 : m < 1
    · have c4a : decide (m < 1) = true := decide_eq_true c4
      have hv : badB t0 t1 t2 m a4 = true := by simp [badB, c4]
      clear c1 c2 c3 c4
      go_wp2
      go_meet
      case rel => exact ⟨by rw [hv], ⟨K.out⟩, ⟨HB.out⟩⟩
    have c4a : decide (m < 1) = false := decide_eq_false c4
    by_cases c5 : 1000000 < a4
    · have c5a : decide (1000000 < a4) = true := decide_eq_true c5
      have hv : badB t0 t1 t2 m a4 = true := by simp [badB, c5]
      clear c1 c2 c3 c4 c5
      go_wp2
      go_meet
      case rel => exact ⟨by rw [hv], ⟨K.out⟩, ⟨HB.out⟩⟩
    have c5a : decide (1000000 < a4) = false := decide_eq_false c5
    obtain ⟨b, hb⟩ : ∃ b : Bool, decide (a4 < m) = b := ⟨_, rfl⟩
    have hv : badB t0 t1 t2 m a4 = b := by simp [badB, c1, c2, c3, c4, c5, ← hb]
    clear c1 c2 c3 c4 c5
    go_wp2
    go_meet
    case rel => exact ⟨by rw [hv], ⟨K.out⟩, ⟨HB.out⟩⟩
  obtain ⟨rfl, K, HB⟩ := hcut
  have H := HF.out
  clear HF
  unfold money_Right.f at H
  by_cases c1 : badB t0 t1 t2 m a4 = true
  · rw [if_pos c1] at H
    obtain rfl := Option.some.inj H
    rw [c1]
    clear H c1
    go_wp2
    go_ret
    exact ⟨rfl, HB.out⟩
  rw [if_neg c1] at H
  rw [Bool.eq_false_iff.mpr c1]
  have hb : t1.length ≤ 64 ∧ t2.length = t1.length ∧ t0.length ≤ 8 := by
    simp only [badB, Bool.or_eq_true, decide_eq_true_eq, Bool.not_eq_true', decide_eq_false_iff_not] at c1
    omega
  have H' := Aside0.mk H
  clear H c1
  have HL := Aside0.mk hb
  clear hb
  have hcz0 : _ = some (Value.slice P0 t0.length c0_0) := (blk_cell K.out 0).trans rfl
  have hcz1 : _ = some (Value.slice P1 t1.length c0_1) := (blk_cell K.out 1).trans rfl
  go_wp2
  go_loopg [47] k (fun kq v47 w' => ∃ j : Nat, v47 = .int .i64 (j : Int) ∧ Aside0 (money_Right.l0 kq j t0 t1 t2 = some r) ∧ Aside0 (kq ≤ k) ∧ Aside0 (w'.heap[g]? = some (.cells #[(.slice P0 t0.length c0_0), (.slice P1 t1.length c0_1), (.slice P2 t2.length c0_2), .int .i64 m, .int .i64 a4] 26 (0, 0))) ∧ Aside0 (Below w.heap.size w w'))
  case atStart => exact ⟨0, rfl, H', ⟨Nat.le_refl _⟩, K, HB⟩
  case round =>
    clear H' hcz0 hcz1 K HB
    obtain ⟨j, rfl, HA, HK1, K, HB⟩ := hrel
    cases gk with
    | zero => exact absurd HA.out (by simp [money_Right.l0])
    | succ k1 =>
      have H := HA.out
      clear HA
      simp only [money_Right.l0] at H
      by_cases c2 : j < t0.length
      · rw [if_pos c2] at H
        have hj : j < 8 := by have := HL.out; omega
        have c2a : decide ((j : Int) < (t0.length : Int)) = true := decide_eq_true (by omega)
        have c2b : decide (j < t0.length) = true := decide_eq_true c2
        obtain ⟨d, hd, H⟩ := Option.bind_eq_some_iff.mp H
        obtain ⟨ad, e164, x0, x1, x2, x3, x4, x5, x6, x7, x8, x9, x10, x11, x12, x13, x14, x15⟩ := at_T31 HR0_0.out (j : Int) (by omega) (by omega)
        subst e164
        simp only [Int.toNat_natCast] at x0 x1 x2 x3 x4 x5 x6 x7 x8 x9 x10 x11 x12 x13 x14 x15
        have lift : ∀ {a : Addr} {v : Value}, w.cell? a = some v → _ := fun {a v} h => (HB.out.cell (World.block_lt_of_cell? w _ h)).trans h
        replace x0 := lift x0
        replace x1 := lift x1
        replace x2 := lift x2
        replace x3 := lift x3
        replace x4 := lift x4
        replace x5 := lift x5
        replace x6 := lift x6
        replace x7 := lift x7
        replace x8 := lift x8
        replace x9 := lift x9
        replace x10 := lift x10
        replace x11 := lift x11
        replace x12 := lift x12
        replace x13 := lift x13
        replace x14 := lift x14
        replace x15 := lift x15
        clear lift
        unfold cassOf at hd
        have D := Aside0.mk hd
        clear hd
        have H' := Aside0.mk H
        clear H
        cases d with
        | false =>
          have H := H'.out
          clear H'
          rw [if_neg (by decide)] at H
          obtain rfl := Option.some.inj H
          clear H
          go_wp2_with (first | (go_at_call 18; (with_reducible refine (money_cassettes.calls k1 _ _ _ _ _ _ _ _ _ _ _ _ _ _ _ _ false _ D.out).mono ?_); rintro e w' ⟨rfl, hb⟩; have HB1 := Aside0.mk (below_step (below_alloc HB.out _) hb)))
          go_ret
          exact ⟨rfl, HB1.out⟩
        | true =>
          go_wp2_with (first | (go_at_call 18; (with_reducible refine (money_cassettes.calls k1 _ _ _ _ _ _ _ _ _ _ _ _ _ _ _ _ true _ D.out).mono ?_); rintro e w' ⟨rfl, hb⟩; have HB1 := Aside0.mk (below_step (below_alloc HB.out _) hb); have K1 := Aside0.mk (blk_below (g := g) (o := .cells #[.slice (some ad) t0.length c0_0, .slice P1 t1.length c0_1, .slice P2 t2.length c0_2, .int .i64 m, .int .i64 a4] 26 (0, 0)) (blk_alloc K.out _) hb)))
          go_roundg k1
          case measure => have := HK1.out; omega
          case rel => exact ⟨j + 1, by first | rfl | (congr 1; unfold wrap64; omega), ⟨by simpa using H'.out⟩, ⟨by have := HK1.out; omega⟩, K1, HB1⟩
      · rw [if_neg c2] at H
        have c2a : decide ((j : Int) < (t0.length : Int)) = false := decide_eq_false (by omega)
        have c2b : decide (j < t0.length) = false := decide_eq_false c2
        have hmm := @run_makeMap Tryd.prog
        have H' := Aside0.mk H
        clear H
        go_upto_region 10 with (fail)
        have hgm : g < wr.heap.size := (Array.getElem?_eq_some_iff.1 K.out).1
        have HM := Aside0.mk (IsSet.new Tryd.prog 9 4 wr)
        have K1 := Aside0.mk (blk_alloc K.out (.map #[] 0))
        have HB1 := Aside0.mk (below_alloc HB.out (.map #[] 0))
        have hmw := HB.out.size
        generalize wr.alloc (.map #[] 0) = wm at HM K1 HB1 ⊢
        generalize wr.heap.size = mb at hgm HM hmw ⊢
        clear hmm K HB
        have hcz1 : _ = some (Value.slice P1 t1.length c0_1) := (blk_cell K1.out 1).trans rfl
        go_wp2
        clear hcz1
        go_loopg [59] k1 (fun kq v59 w' => ∃ j : Nat, v59 = .int .i64 (j : Int) ∧ Aside0 (money_Right.l1 kq j t1 t2 = some r) ∧ Aside0 (kq ≤ k1) ∧ Aside0 (w'.heap[g]? = some (.cells #[(.slice P0 t0.length c0_0), (.slice P1 t1.length c0_1), (.slice P2 t2.length c0_2), .int .i64 m, .int .i64 a4] 26 (0, 0))) ∧ Aside0 (Below w.heap.size w w') ∧ Aside0 (IsSet Tryd.prog 9 4 w' mb j (t1.take j)))
        case atStart => exact ⟨0, rfl, H', ⟨Nat.le_refl _⟩, K1, HB1, HM⟩
        case round =>
          clear H' K1 HB1 HM c2 c2a c2b
          obtain ⟨i, rfl, HA, HK2, K, HB, HM⟩ := hrel
          cases gk with
          | zero => exact absurd HA.out (by simp [money_Right.l1])
          | succ k2 =>
            have H := HA.out
            clear HA
            simp only [money_Right.l1] at H
            by_cases c3 : i < t1.length
            · rw [if_pos c3] at H
              have hi : i < 64 := by have := HL.out; omega
              have c3a : decide ((i : Int) < (t1.length : Int)) = true := decide_eq_true (by omega)
              have c3b : decide (i < t1.length) = true := decide_eq_true c3
              obtain ⟨ad, e1, x0⟩ := Kd.at_string HR0_1.out (i : Int) (by omega) (by omega)
              subst e1
              simp only [Int.toNat_natCast] at x0
              replace x0 := (HB.out.cell (World.block_lt_of_cell? w _ x0)).trans x0
              have hcz2 : _ = some (Value.slice P2 t2.length c0_2) := (blk_cell K.out 2).trans rfl
              obtain ⟨ad2, e2, y0⟩ := Kd.at_int HR0_2.out (i : Int) (by omega) (by have := HL.out; omega)
              subst e2
              simp only [Int.toNat_natCast] at y0
              replace y0 := (HB.out.cell (World.block_lt_of_cell? w _ y0)).trans y0
              have c9a : decide ((i : Int) < (t2.length : Int)) = true := decide_eq_true (by have := HL.out; omega)
              have c9b : decide (i < t2.length) = true := decide_eq_true (by have := HL.out; omega)
              have c9c : i < t2.length := by have := HL.out; omega
              generalize hp : rdOf ByteArray.empty t1 (i : Int) = p at H x0
              generalize hq : rd t2 (i : Int) = q at H y0
              by_cases c4 : p.size < 1
              · rw [if_pos c4] at H
                obtain rfl := Option.some.inj H
                have c4a : decide ((p.size : Int) < 1) = true := decide_eq_true (by omega)
                have c4b : decide (p.size < 1) = true := decide_eq_true c4
                clear H c4
                go_wp2
                go_ret
                exact ⟨rfl, HB.out⟩
              rw [if_neg c4] at H
              have c4a : decide ((p.size : Int) < 1) = false := decide_eq_false (by omega)
              have c4b : decide (p.size < 1) = false := decide_eq_false c4
              by_cases c5 : 19 < p.size
              · rw [if_pos c5] at H
                obtain rfl := Option.some.inj H
                have c5a : decide (19 < (p.size : Int)) = true := decide_eq_true (by omega)
                have c5b : decide (19 < p.size) = true := decide_eq_true c5
                clear H c4 c5
                go_wp2
                go_ret
                exact ⟨rfl, HB.out⟩
              rw [if_neg c5] at H
              have c5a : decide (19 < (p.size : Int)) = false := decide_eq_false (by omega)
              have c5b : decide (19 < p.size) = false := decide_eq_false c5
              have hkey : keyOf Tryd.prog 9 (.string p) = some (keyL p) := Go.WideMaps.keyOf_string_mk Tryd.underlying9 (by unfold maxLen; omega)
              clear c4 c5
              obtain ⟨d, hd, H⟩ := Option.bind_eq_some_iff.mp H
              have D := Aside0.mk hd
              clear hd
              cases d with
              | false =>
                rw [if_neg (by decide)] at H
                obtain rfl := Option.some.inj H
                clear H hkey
                go_wp2_with (first | (go_at_call 19; (with_reducible refine (frame_Digits.calls k2 _ false _ D.out).mono ?_); rintro e w' ⟨rfl, ⟨nd, rfl⟩⟩))
                go_ret
                exact ⟨rfl, pw_below_drewN HB.out _⟩
              | true =>
                rw [if_pos rfl] at H
                obtain ⟨M, hown, him, hat⟩ := HM.out
                have HO := Aside0.mk hown
                have HAT := Aside0.mk hat
                have HI := Aside0.mk him
                clear hown hat him HM
                by_cases c6 : seenIn (t1.take i) p = true
                · rw [if_pos c6] at H
                  obtain rfl := Option.some.inj H
                  clear H
                  have hs := (HAT.out p).trans (by rw [c6])
                  have HS := Aside0.mk hs
                  clear hs c6
                  go_wp2_with (first | (go_at_call 19; (with_reducible refine (frame_Digits.calls k2 _ true _ D.out).mono ?_); rintro e w' ⟨rfl, ⟨nd, rfl⟩⟩) | ((try (refine gate_guard (by rfl) ?_; dsimp only)); at_lookup; refine wpList_lookup_own_bool _ rfl _ _ 54 rfl 9 4 (Go.Maps.string_keyed Tryd.underlying9) Tryd.underlying54 Tryd.underlying4 rfl mb i M rfl HO.out _ _ rfl hkey true HS.out ?_))
                  go_ret
                  exact ⟨rfl, pw_below_drewN HB.out _⟩
                · rw [if_neg c6] at H
                  have hs := (HAT.out p).trans (by rw [Bool.eq_false_iff.mpr c6])
                  have HS := Aside0.mk hs
                  clear hs c6
                  by_cases c7 : q < 0
                  · rw [if_pos c7] at H
                    obtain rfl := Option.some.inj H
                    clear H
                    have c7a : decide (q < 0) = true := decide_eq_true c7
                    clear c7
                    go_wp2_with (first | (go_at_call 19; (with_reducible refine (frame_Digits.calls k2 _ true _ D.out).mono ?_); rintro e w' ⟨rfl, ⟨nd, rfl⟩⟩) | ((try (refine gate_guard (by rfl) ?_; dsimp only)); at_lookup; refine wpList_lookup_own_bool _ rfl _ _ 54 rfl 9 4 (Go.Maps.string_keyed Tryd.underlying9) Tryd.underlying54 Tryd.underlying4 rfl mb i M rfl HO.out _ _ rfl hkey false HS.out ?_))
                    go_ret
                    exact ⟨rfl, pw_below_drewN HB.out _⟩
                  rw [if_neg c7] at H
                  have c7a : decide (q < 0) = false := decide_eq_false c7
                  clear c7
                  by_cases c8 : 1000000000000 < q
                  · rw [if_pos c8] at H
                    obtain rfl := Option.some.inj H
                    clear H
                    have c8a : decide (1000000000000 < q) = true := decide_eq_true c8
                    clear c8
                    go_wp2_with (first | (go_at_call 19; (with_reducible refine (frame_Digits.calls k2 _ true _ D.out).mono ?_); rintro e w' ⟨rfl, ⟨nd, rfl⟩⟩) | ((try (refine gate_guard (by rfl) ?_; dsimp only)); at_lookup; refine wpList_lookup_own_bool _ rfl _ _ 54 rfl 9 4 (Go.Maps.string_keyed Tryd.underlying9) Tryd.underlying54 Tryd.underlying4 rfl mb i M rfl HO.out _ _ rfl hkey false HS.out ?_))
                    go_ret
                    exact ⟨rfl, pw_below_drewN HB.out _⟩
                  rw [if_neg c8] at H
                  have c8a : decide (1000000000000 < q) = false := decide_eq_false c8
                  clear c8
                  have H' := Aside0.mk H
                  clear H
                  go_wp2_with (first | (go_at_call 19; (with_reducible refine (frame_Digits.calls k2 _ true _ D.out).mono ?_); rintro e w' ⟨rfl, ⟨nd, rfl⟩⟩) | ((try (refine gate_guard (by rfl) ?_; dsimp only)); at_lookup; refine wpList_lookup_own_bool _ rfl _ _ 54 rfl 9 4 (Go.Maps.string_keyed Tryd.underlying9) Tryd.underlying54 Tryd.underlying4 rfl mb i M rfl HO.out _ _ rfl hkey false HS.out ?_) | (at_mapUpdate; refine wpList_mapUpdate_own _ rfl _ _ _ 54 rfl 9 4 (Go.Maps.string_keyed Tryd.underlying9) Tryd.underlying54 (plainElem (H := Unit) Tryd.prog 4) mb i M rfl HO.out (by unfold maxLen; omega) _ _ _ rfl rfl hkey _ [] (plainElem_bool Tryd.underlying4 true) ?_; intro w1 hown1 hgrow1))
                  go_roundg k2
                  case measure => have := HK2.out; omega
                  case rel =>
                    refine ⟨i + 1, by first | rfl | (congr 1; unfold wrap64; omega), H', ⟨by have := HK2.out; omega⟩, ⟨(hgrow1.block g (Array.getElem?_eq_some_iff.1 K.out).1 (by simp; omega)).trans K.out⟩, ⟨(pw_below_drewN HB.out _).grown hgrow1 HB.out.size (fun j hj => by cases hj; exact hmw)⟩, ⟨⟨_, hown1, HI.out.put _ _, ?_⟩⟩⟩
                    have e1 : t1.take (i + 1) = t1.take i ++ [p] := by
                      rw [List.take_add_one, ← hp]
                      simp [rdOf, List.getD, List.getElem?_eq_getElem c3]
                    rw [e1]
                    exact put_set HI.out HAT.out p
            · rw [if_neg c3] at H
              obtain rfl := Option.some.inj H
              have c3a : decide ((i : Int) < (t1.length : Int)) = false := decide_eq_false (by omega)
              have c3b : decide (i < t1.length) = false := decide_eq_false c3
              go_wp2
              go_ret
              exact ⟨rfl, HB.out⟩
end Go.Proofs.YtjheabcffkbfkaaDoor.X
