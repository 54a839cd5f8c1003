/- The row and the card of guichetlaw14.TableWays: for every input the law returns true and leaves its arguments as they were. Conditions: the row's own (the listed tables hold what the program's text lays; the card ties that). -/
import Derived.Test.YtjheabcffkbfkaaDoorTL
import Derived.Test.YtjheabcffkbfkaaDoorTP
import Derived.Test.YtjheabcffkbfkaaDoorTA
import Derived.Test.YtjheabcffkbfkaaDoorCards
import Derived.Test.YtjheabcffkbfkaaDoorTie
import Derived.WalkKit
import Derived.ProofKit
import Derived.OpenShut
import Derived.ChangeOld
import Derived.SizedLaws
import Derived.LaidMore
import Derived.SevenTiedAt
namespace Go.Proofs.YtjheabcffkbfkaaDoor.T
open Go.RowKit Go.Proofs.YtjheabcffkbfkaaDoorV.PrintWords Go.Proofs.YtjheabcffkbfkaaDoorV.PrintLast Go.Proofs.YtjheabcffkbfkaaDoorV.PrintMore Go.ChangeShapes Go.WideShapes Go.ChangeAt
set_option linter.unusedVariables false
set_option linter.unusedSimpArgs false
theorem own : ownKnob Tryd.prog.godebug = none := by kernel_rfl
theorem laidOut : laidOutB Tryd.prog = true := by kernel_rfl
theorem gT : Tryd.prog.globalNamed "internal/strconv.uint64pow10" = some 3 := by kernel_rfl
theorem gTType : (Tryd.prog.globals[3]?).map (·.type) = some 130 := by kernel_rfl
theorem good_of {W : World} (hL : laidMetH Tryd.prog Rows.tableWaysRow.laid W) (hsh : W.ShapedOpen Tryd.prog) : TabH W := by
  rw [MakeChecks.laidMetH_plain _ _ _ (by kernel_rfl)] at hL
  have htab : Lib.TabIs Tryd.prog W "internal/strconv.uint64pow10" .u64 Lib.pow10Tab := Lib.tabIs_of_head gT gTType Tryd.underlying130 Tryd.underlying76 (by kernel_rfl) (by kernel_rfl) hL.tail.tail
  intro w' hb
  exact ⟨Lib.tabBelow_of_tabIs htab w' hb, shaped_below hsh hb⟩
theorem c5 : Tryd.prog.cellsOf 5 = 1 := by kernel_rfl
theorem c62 : Tryd.prog.cellsOf 62 = 4 := by kernel_rfl
theorem byteOf {n : Int} (h : (Lit.int .u8 n).wf = true) : 0 ≤ n ∧ n < 256 := by
  simp only [Lit.wf, IntKind.min, IntKind.max, IntKind.signed, IntKind.bits, Bool.and_eq_true, decide_eq_true_eq] at h
  simp at h
  omega
theorem opens62 {H : Type} {enc : TypeId × Value → H} {w : World} {base : Nat} {spare : Nat → Bool} {held : Bool} : Opens Tryd.prog H enc w base spare held k62 62 byteS := fun fuel cs x h => by
  have s0 := seg_field Tryd.underlying62 h 0 _ rfl (opens_int (k := .u8) Tryd.underlying5) c5 (by rw [c62]; decide)
  have s0 : Seg w (Kd.int .u8) cs 0 (fun n => (Lit.int .u8 n).wf = true) := s0
  have s1 := seg_field Tryd.underlying62 h 1 _ rfl (opens_int (k := .u8) Tryd.underlying5) c5 (by rw [c62]; decide)
  have s1 : Seg w (Kd.int .u8) cs 1 (fun n => (Lit.int .u8 n).wf = true) := s1
  have s2 := seg_field Tryd.underlying62 h 2 _ rfl (opens_int (k := .u8) Tryd.underlying5) c5 (by rw [c62]; decide)
  have s2 : Seg w (Kd.int .u8) cs 2 (fun n => (Lit.int .u8 n).wf = true) := s2
  have s3 := seg_field Tryd.underlying62 h 3 _ rfl (opens_int (k := .u8) Tryd.underlying5) c5 (by rw [c62]; decide)
  have s3 : Seg w (Kd.int .u8) cs 3 (fun n => (Lit.int .u8 n).wf = true) := s3
  obtain ⟨a, ha, h0, h1, h2, h3⟩ := Seg.all (d := k62) (Seg.iso (Seg.pair s0 (Seg.pair s1 (Seg.pair s2 s3))) (fun a => ⟨⟨a.1, a.2.1, a.2.2.1, a.2.2.2⟩, rfl⟩)) ((cells_struct Tryd.underlying62 h).trans c62)
  exact ⟨a, ha, byteOf h0, byteOf h1, byteOf h2, byteOf h3⟩
theorem door_met (os : Os) (args : Array Value) : laidMetH Tryd.prog Rows.tableWaysRow.laid ((World.doorLaid Tryd.prog 62 os).forCall (fun _ _ => 0) ⟨#[], args, []⟩).memory :=
  laidMetH_of_parts3 (fuel := 8) (laidMet_of_run' 8 (by kernel_rfl) (by kernel_rfl)) (by kernel_rfl) (by kernel_rfl)
set_option maxRecDepth 100000 in
theorem lifted (os : Os) (started : os.Started) (H : Type) (enc : TypeId × Value → H) :
    ReturnsInHanded {} Tryd.checked os 4 .any (fun w args => (Rows.tableWaysSpec.pre enc Tryd.prog Tryd.f4 [] false w args ∧ laidMetH Tryd.prog Rows.tableWaysRow.laid w) ∧ sizedMet enc Tryd.prog Tryd.f4 (OpenSpec.ofChange Rows.tableWaysSpec) false w args)
      (Rows.tableWaysSpec.post enc Tryd.prog Tryd.f4 false true false false) := by
  refine returns_and_shaped (C := Tryd.checked) (X := fun w _ => laidMetH Tryd.prog Rows.tableWaysRow.laid w) (fun _ _ _ hh h => h.of_heap hh) own started (by kernel_rfl) Tryd.func4
    (ChangeSpec.witness_shaped (enc := enc) (C := Tryd.checked) (os := os) (X := fun w _ => laidMetH Tryd.prog Rows.tableWaysRow.laid w) false (World.doorLaid Tryd.prog 62 os) #[.slice none 0 0, .int .u8 0, .int .u8 0] 8 rfl (World.shaped_of_RefB (by kernel_rfl) (by kernel_rfl)) (by kernel_rfl) (by kernel_rfl) (by kernel_rfl) (door_met os _)) ?_
  intro W base args ds gs before hval0 hW hsz0 hL hsh
  have hval : ∀ (j : Nat) t v, Tryd.f4.params[j]? = some t → args[j]? = some v → Value.okWide Tryd.prog W .any base t v := hval0
  have hW' := hW
  obtain ⟨p, q, hA0, hV, rfl, hfz, hnd⟩ := hW
  have hA : DataW.TrodAll enc Tryd.prog W 0 (fun _ => true) true Tryd.f4.params.toList args.toList ds p := hA0
  rw [Tryd.params4] at hA hval
  obtain ⟨v0, vs0, d0, ds0, p0, q0, hargs, rfl, rfl, h0, r0⟩ := trodAll_cons hA
  obtain ⟨v1, vs1, d1, ds1, p1, q1, rfl, rfl, rfl, h1, r1⟩ := trodAll_cons r0
  obtain ⟨v2, vs2, d2, ds2, p2, q2, rfl, rfl, rfl, h2, r2⟩ := trodAll_cons r1
  obtain ⟨rfl, rfl, rfl⟩ := trodAll_nil r2
  obtain rfl : args = #[v0, v1, v2] := by cases args; simp_all
  obtain ⟨rfl, rfl⟩ := trodVars_none hV
  obtain ⟨B0, bn, bc, rfl⟩ := okWide_slice Tryd.underlying37 (hval 0 37 v0 rfl rfl)
  have k0 := h0
  have lt0 : ∀ x ∈ p0, x.block < W.heap.size := by obtain ⟨m, hm⟩ := k0; exact DataW.trod_lt m _ _ _ hm
  obtain ⟨fuel, hf⟩ := h0
  obtain ⟨l0, ⟨A0, c0, hcs, hc0, hr0⟩, hb⟩ := opens_slice Tryd.underlying37 opens62 c62 _ _ _ hf
  have hcs' : [Value.slice B0 bn bc] = [.slice A0 l0.length c0] := hcs
  obtain ⟨rfl, rfl, rfl⟩ : B0 = A0 ∧ bn = l0.length ∧ bc = c0 := by injection hcs' with e; injection e with e1 e2 e3; exact ⟨e1, e2, e3⟩
  obtain ⟨a1, rfl, rfl, rfl, w1⟩ := open_int Tryd.underlying5 (hval 1 5 v1 rfl rfl) h1
  obtain ⟨a2, rfl, rfl, rfl, w2⟩ := open_int Tryd.underlying5 (hval 2 5 v2 rfl rfl) h2
  clear hA0 hval0 hsz0 hval hcs hcs' hf
  refine (law_walk B0 bc l0 a1 a2 W hr0 hc0 (good_of hL hsh) (byteOf w2) known_is (table_is l0 a1 (byteOf w1).1 (byteOf w1).2 hb)).mono fun e W' ⟨he, bel⟩ => ?_
  subst he
  exact ⟨_, rfl, _, _, _, [], _, [], hW', trodAll_mk1 (shut_bool Tryd.underlying4 _), trodAll_cons_mk (Below.trod laidOut (by kernel_rfl) (of_decide_eq_true (by kernel_rfl)) k0 bel lt0) (trodAll_cons_mk (shut_int Tryd.underlying5 w1) (trodAll_cons_mk (shut_int Tryd.underlying5 w2) trodAll_mk0)), rfl, bel.frame _, fun h => by cases h⟩
theorem said : Rows.TableWaysSaid :=
  OpenClaim.holds_of_wide 4 Tryd.f4 rfl rfl rfl rfl rfl rfl rfl ⟨rfl, rfl, rfl, rfl, rfl⟩ rfl rfl rfl rfl rfl (by kernel_rfl) Tryd.func4 (by kernel_rfl)
    (of_decide_eq_true (by kernel_rfl)) (by unfold Func.isWrapper; first | (rw [if_pos (by decide +kernel)]; kernel_rfl) | (rw [if_neg (by decide +kernel)]; exact ⟨rfl, rfl⟩))
    (fun os started H enc _ => lifted os started H enc)
end Go.Proofs.YtjheabcffkbfkaaDoor.T
namespace Go.Proofs.YtjheabcffkbfkaaDoor
open Go
/-- THE CARD. -/
theorem tableWays_card : Rows.TableWaysCardSaid :=
  Claim7.holds_tied_plain_at .later [] [.data, .data, .data, .sentinel, .sentinel] true (true, "d52d498ed9d45910c1615765b4061293abc1a6116d6cbb8e6362bc48b4c64ced") true
    T.said (fun _ h => by cases h) (by kernel_rfl) (fun _ h => by cases h) tableWays_row_tie rfl ⟨rfl, rfl⟩ (by kernel_rfl) rfl
    (fun f fn hf hfn => by
      obtain rfl : f = 4 := Option.some.inj ((show Tryd.prog.funcNamed "guichet/guichetlaw14.TableWays" = some 4 by kernel_rfl).symm.trans hf) |>.symm
      obtain rfl : fn = Tryd.f4 := (Option.some.inj (Tryd.func4.symm.trans hfn)).symm
      exact ⟨by kernel_rfl, fun j t ht => by
        rw [Tryd.params4] at ht
        have hm : t ∈ [37, 5, 5] := by simpa using Array.mem_of_getElem? ht
        have hall : ([37, 5, 5].all fun u => !Tryd.prog.wantsStandIn u) = true := by kernel_rfl
        exact (show Tryd.prog.wantsStandIn t = false by simpa using List.all_eq_true.1 hall t hm)⟩)
    (by kernel_rfl)
#print axioms tableWays_card
end Go.Proofs.YtjheabcffkbfkaaDoor
