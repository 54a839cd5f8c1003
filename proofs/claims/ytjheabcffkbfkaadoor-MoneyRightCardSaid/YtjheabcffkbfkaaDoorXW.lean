/- The row and the card of guichetlaw16.MoneyRight: for every input the law returns true and leaves its arguments as they were. Conditions: the row's own (the listed tables hold what the program's text lays; the card ties that). -/
import Derived.Test.YtjheabcffkbfkaaDoorXL
import Derived.Test.YtjheabcffkbfkaaDoorXP
import Derived.Test.YtjheabcffkbfkaaDoorXA
import Derived.Test.YtjheabcffkbfkaaDoorCards
import Derived.Test.YtjheabcffkbfkaaDoorTie
import Derived.WalkKit
import Derived.ProofKit
import Derived.OpenShut
import Derived.ChangeOld
import Derived.SizedLaws
import Derived.LaidMore
import Derived.SevenTiedAt
namespace Go.Proofs.YtjheabcffkbfkaaDoor.X
open Go.RowKit Go.Proofs.YtjheabcffkbfkaaDoorW.PrintWords Go.Proofs.YtjheabcffkbfkaaDoorW.PrintLast Go.Proofs.YtjheabcffkbfkaaDoorW.PrintMore Go.ChangeShapes Go.WideShapes Go.ChangeAt
set_option linter.unusedVariables false
set_option linter.unusedSimpArgs false
theorem own : ownKnob Tryd.prog.godebug = none := by kernel_rfl
theorem laidOut : laidOutB Tryd.prog = true := by kernel_rfl
theorem gT : Tryd.prog.globalNamed "internal/strconv.uint64pow10" = some 3 := by kernel_rfl
theorem gTType : (Tryd.prog.globals[3]?).map (·.type) = some 130 := by kernel_rfl
theorem good_of {W : World} (hL : laidMetH Tryd.prog Rows.moneyRightRow.laid W) (hsh : W.ShapedOpen Tryd.prog) : TabH W := by
  rw [MakeChecks.laidMetH_plain _ _ _ (by kernel_rfl)] at hL
  have htab : Lib.TabIs Tryd.prog W "internal/strconv.uint64pow10" .u64 Lib.pow10Tab := Lib.tabIs_of_head gT gTType Tryd.underlying130 Tryd.underlying76 (by kernel_rfl) (by kernel_rfl) hL.tail.tail
  intro w' hb
  exact ⟨Lib.tabBelow_of_tabIs htab w' hb, shaped_below hsh hb⟩
theorem c2 : Tryd.prog.cellsOf 2 = 1 := by kernel_rfl
theorem c3 : Tryd.prog.cellsOf 3 = 1 := by kernel_rfl
theorem c9 : Tryd.prog.cellsOf 9 = 1 := by kernel_rfl
theorem c22 : Tryd.prog.cellsOf 22 = 1 := by kernel_rfl
theorem c23 : Tryd.prog.cellsOf 23 = 1 := by kernel_rfl
theorem c24 : Tryd.prog.cellsOf 24 = 1 := by kernel_rfl
theorem c30 : Tryd.prog.cellsOf 30 = 4 := by kernel_rfl
theorem c31 : Tryd.prog.cellsOf 31 = 16 := by kernel_rfl
theorem c26 : Tryd.prog.cellsOf 26 = 5 := by kernel_rfl
theorem opens30 {H : Type} {enc : TypeId × Value → H} {w : World} {base : Nat} {spare : Nat → Bool} {held : Bool} : Opens Tryd.prog H enc w base spare held k30 30 := fun fuel cs x h => by
  have s0 := seg_field Tryd.underlying30 h 0 _ rfl (opens_int (k := .i64) Tryd.underlying2) c2 (by rw [c30]; decide)
  have s0 : Seg w (Kd.int .i64) cs 0 := s0
  have s1 := seg_field Tryd.underlying30 h 1 _ rfl (opens_int (k := .i64) Tryd.underlying3) c3 (by rw [c30]; decide)
  have s1 : Seg w (Kd.int .i64) cs 1 := s1
  have s2 := seg_field Tryd.underlying30 h 2 _ rfl (opens_int (k := .i64) Tryd.underlying3) c3 (by rw [c30]; decide)
  have s2 : Seg w (Kd.int .i64) cs 2 := s2
  have s3 := seg_field Tryd.underlying30 h 3 _ rfl (opens_int (k := .i64) Tryd.underlying3) c3 (by rw [c30]; decide)
  have s3 : Seg w (Kd.int .i64) cs 3 := s3
  exact Seg.all (d := k30) (Seg.iso (Seg.pair s0 (Seg.pair s1 (Seg.pair s2 s3))) (fun a => ⟨⟨a.1, a.2.1, a.2.2.1, a.2.2.2⟩, rfl⟩)) ((cells_struct Tryd.underlying30 h).trans c30)
theorem opens31 {H : Type} {enc : TypeId × Value → H} {w : World} {base : Nat} {spare : Nat → Bool} {held : Bool} : Opens Tryd.prog H enc w base spare held k31 31 := fun fuel cs x h => by
  have s0 := seg_elem Tryd.underlying31 h 0 (by decide) (opens30 (base := base)) c30 (by rw [c31]; decide)
  have s1 := seg_elem Tryd.underlying31 h 1 (by decide) (opens30 (base := base)) c30 (by rw [c31]; decide)
  have s2 := seg_elem Tryd.underlying31 h 2 (by decide) (opens30 (base := base)) c30 (by rw [c31]; decide)
  have s3 := seg_elem Tryd.underlying31 h 3 (by decide) (opens30 (base := base)) c30 (by rw [c31]; decide)
  have s0 : Seg w k30 cs 0 := s0
  have s1 : Seg w k30 cs 4 := s1
  have s2 : Seg w k30 cs 8 := s2
  have s3 : Seg w k30 cs 12 := s3
  exact Seg.all (d := k31) (Seg.iso (Seg.pair s0 (Seg.pair s1 (Seg.pair s2 s3))) (fun a => ⟨⟨a.1, a.2.1, a.2.2.1, a.2.2.2⟩, rfl⟩)) ((cells_array Tryd.underlying31 h).trans c31)
theorem opens26 {H : Type} {enc : TypeId × Value → H} {w : World} {base : Nat} {spare : Nat → Bool} {held : Bool} : Opens Tryd.prog H enc w base spare held k26 26 := fun fuel cs x h => by
  have s0 := seg_field Tryd.underlying26 h 0 _ rfl (opens_slice Tryd.underlying22 opens31 c31) c22 (by rw [c26]; decide)
  have s0 : Seg w (Kd.slice 31 k31) cs 0 := s0
  have s1 := seg_field Tryd.underlying26 h 1 _ rfl (opens_slice Tryd.underlying23 (opens_string Tryd.underlying9) c9) c23 (by rw [c26]; decide)
  have s1 : Seg w (Kd.slice 9 Kd.string) cs 1 := s1
  have s2 := seg_field Tryd.underlying26 h 2 _ rfl (opens_slice Tryd.underlying24 (opens_int (k := .i64) Tryd.underlying2) c2) c24 (by rw [c26]; decide)
  have s2 : Seg w (Kd.slice 2 (Kd.int .i64)) cs 2 := s2
  have s3 := seg_field Tryd.underlying26 h 3 _ rfl (opens_int (k := .i64) Tryd.underlying2) c2 (by rw [c26]; decide)
  have s3 : Seg w (Kd.int .i64) cs 3 := s3
  have s4 := seg_field Tryd.underlying26 h 4 _ rfl (opens_int (k := .i64) Tryd.underlying2) c2 (by rw [c26]; decide)
  have s4 : Seg w (Kd.int .i64) cs 4 := s4
  exact Seg.all (d := k26) (Seg.iso (Seg.pair s0 (Seg.pair s1 (Seg.pair s2 (Seg.pair s3 s4)))) (fun a => ⟨⟨a.1, a.2.1, a.2.2.1, a.2.2.2.1, a.2.2.2.2⟩, rfl⟩)) ((cells_struct Tryd.underlying26 h).trans c26)
theorem door_met (os : Os) (args : Array Value) : laidMetH Tryd.prog Rows.moneyRightRow.laid ((World.doorLaid Tryd.prog 62 os).forCall (fun _ _ => 0) ⟨#[], args, []⟩).memory :=
  laidMetH_of_parts3 (fuel := 8) (laidMet_of_run' 8 (by kernel_rfl) (by kernel_rfl)) (by kernel_rfl) (by kernel_rfl)
set_option maxRecDepth 100000 in
theorem lifted (os : Os) (started : os.Started) (H : Type) (enc : TypeId × Value → H) :
    ReturnsInHanded {} Tryd.checked os 3 .any (fun w args => (Rows.moneyRightSpec.pre enc Tryd.prog Tryd.f3 [] false w args ∧ laidMetH Tryd.prog Rows.moneyRightRow.laid w) ∧ sizedMet enc Tryd.prog Tryd.f3 (OpenSpec.ofChange Rows.moneyRightSpec) false w args)
      (Rows.moneyRightSpec.post enc Tryd.prog Tryd.f3 false true false false) := by
  refine returns_and_shaped (C := Tryd.checked) (X := fun w _ => laidMetH Tryd.prog Rows.moneyRightRow.laid w) (fun _ _ _ hh h => h.of_heap hh) own started (by kernel_rfl) Tryd.func3
    (ChangeSpec.witness_shaped (enc := enc) (C := Tryd.checked) (os := os) (X := fun w _ => laidMetH Tryd.prog Rows.moneyRightRow.laid w) false (World.doorLaid Tryd.prog 62 os) #[.agg #[.slice none 0 0, .slice none 0 0, .slice none 0 0, .int .i64 0, .int .i64 0], .int .u8 0, .int .u8 0, .int .u8 0, .int .i64 0, .int .i64 0] 8 rfl (World.shaped_of_RefB (by kernel_rfl) (by kernel_rfl)) (by kernel_rfl) (by kernel_rfl) (by kernel_rfl) (door_met os _)) ?_
  intro W base args ds gs before hval0 hW hsz0 hL hsh
  have hval : ∀ (j : Nat) t v, Tryd.f3.params[j]? = some t → args[j]? = some v → Value.okWide Tryd.prog W .any base t v := hval0
  have hW' := hW
  obtain ⟨p, q, hA0, hV, rfl, hfz, hnd⟩ := hW
  have hA : DataW.TrodAll enc Tryd.prog W 0 (fun _ => true) true Tryd.f3.params.toList args.toList ds p := hA0
  rw [Tryd.params3] at hA hval
  obtain ⟨v0, vs0, d0, ds0, p0, q0, hargs, rfl, rfl, h0, r0⟩ := trodAll_cons hA
  obtain ⟨v1, vs1, d1, ds1, p1, q1, rfl, rfl, rfl, h1, r1⟩ := trodAll_cons r0
  obtain ⟨v2, vs2, d2, ds2, p2, q2, rfl, rfl, rfl, h2, r2⟩ := trodAll_cons r1
  obtain ⟨v3, vs3, d3, ds3, p3, q3, rfl, rfl, rfl, h3, r3⟩ := trodAll_cons r2
  obtain ⟨v4, vs4, d4, ds4, p4, q4, rfl, rfl, rfl, h4, r4⟩ := trodAll_cons r3
  obtain ⟨v5, vs5, d5, ds5, p5, q5, rfl, rfl, rfl, h5, r5⟩ := trodAll_cons r4
  obtain ⟨rfl, rfl, rfl⟩ := trodAll_nil r5
  obtain rfl : args = #[v0, v1, v2, v3, v4, v5] := by cases args; simp_all
  obtain ⟨rfl, rfl⟩ := trodVars_none hV
  obtain ⟨cs0, rfl, hcs0⟩ := okWide_struct Tryd.underlying26 (hval 0 26 v0 rfl rfl)
  have k0 := h0
  have lt0 : ∀ x ∈ p0, x.block < W.heap.size := by obtain ⟨m, hm⟩ := k0; exact DataW.trod_lt m _ _ _ hm
  obtain ⟨fuel, hf⟩ := h0
  obtain ⟨cfg, hcfg⟩ := opens26 _ _ _ hf
  obtain ⟨A0, c0, A1, c1, A2, c2, hcs, l0, g0, l1, g1, l2, g2⟩ := k26_open hcfg
  have hcs' : cs0.toList = [.slice A0 cfg.f0.length c0, .slice A1 cfg.f1.length c1, .slice A2 cfg.f2.length c2, .int .i64 cfg.f3, .int .i64 cfg.f4] := hcs
  obtain rfl : cs0 = #[.slice A0 cfg.f0.length c0, .slice A1 cfg.f1.length c1, .slice A2 cfg.f2.length c2, .int .i64 cfg.f3, .int .i64 cfg.f4] := Array.toList_inj.mp hcs'
  obtain ⟨a1, rfl, rfl, rfl, w1⟩ := open_int Tryd.underlying5 (hval 1 5 v1 rfl rfl) h1
  obtain ⟨a2, rfl, rfl, rfl, w2⟩ := open_int Tryd.underlying5 (hval 2 5 v2 rfl rfl) h2
  obtain ⟨a3, rfl, rfl, rfl, w3⟩ := open_int Tryd.underlying5 (hval 3 5 v3 rfl rfl) h3
  obtain ⟨a4, rfl, rfl, rfl, w4⟩ := open_int Tryd.underlying2 (hval 4 2 v4 rfl rfl) h4
  obtain ⟨a5, rfl, rfl, rfl, w5⟩ := open_int Tryd.underlying2 (hval 5 2 v5 rfl rfl) h5
  have byte : ∀ {n : Int}, (Lit.int .u8 n).wf = true → 0 ≤ n ∧ n < 256 := fun {n} h => by
    simp only [Lit.wf, IntKind.min, IntKind.max, IntKind.signed, IntKind.bits, Bool.and_eq_true, decide_eq_true_eq] at h
    simp at h
    omega
  clear hA0 hval0 hsz0 hval hcs hcs' hf hcfg
  refine (law_walk A0 c0 cfg.f0 A1 c1 cfg.f1 A2 c2 cfg.f2 cfg.f3 cfg.f4 a1 a2 a3 a4 a5 W g0 l0 g1 l1 g2 l2 (good_of hL hsh) (byte w2) (byte w3) known_is (bank_is a1 a2 (byte w1).1 (byte w2).1 (byte w2).2) (fun l0 l1 l2 lo hi _ _ _ => cfg_alike l0 l1 l2 lo hi)).mono fun e W' ⟨he, bel⟩ => ?_
  subst he
  exact ⟨_, rfl, _, _, _, [], _, [], hW', trodAll_mk1 (shut_bool Tryd.underlying4 _), trodAll_cons_mk (Below.trod laidOut (by kernel_rfl) (of_decide_eq_true (by kernel_rfl)) k0 bel lt0) (trodAll_cons_mk (shut_int Tryd.underlying5 w1) (trodAll_cons_mk (shut_int Tryd.underlying5 w2) (trodAll_cons_mk (shut_int Tryd.underlying5 w3) (trodAll_cons_mk (shut_int Tryd.underlying2 w4) (trodAll_cons_mk (shut_int Tryd.underlying2 w5) trodAll_mk0))))), rfl, bel.frame _, fun h => by cases h⟩
theorem said : Rows.MoneyRightSaid :=
  OpenClaim.holds_of_wide 3 Tryd.f3 rfl rfl rfl rfl rfl rfl rfl ⟨rfl, rfl, rfl, rfl, rfl⟩ rfl rfl rfl rfl rfl (by kernel_rfl) Tryd.func3 (by kernel_rfl)
    (of_decide_eq_true (by kernel_rfl)) (by unfold Func.isWrapper; first | (rw [if_pos (by decide +kernel)]; kernel_rfl) | (rw [if_neg (by decide +kernel)]; exact ⟨rfl, rfl⟩))
    (fun os started H enc _ => lifted os started H enc)
end Go.Proofs.YtjheabcffkbfkaaDoor.X
namespace Go.Proofs.YtjheabcffkbfkaaDoor
open Go
/-- THE CARD. -/
theorem moneyRight_card : Rows.MoneyRightCardSaid :=
  Claim7.holds_tied_plain_at .later [] [.data, .data, .data, .sentinel, .sentinel] true (true, "d52d498ed9d45910c1615765b4061293abc1a6116d6cbb8e6362bc48b4c64ced") true
    X.said (fun _ h => by cases h) (by kernel_rfl) (fun _ h => by cases h) moneyRight_row_tie rfl ⟨rfl, rfl⟩ (by kernel_rfl) rfl
    (fun f fn hf hfn => by
      obtain rfl : f = 3 := Option.some.inj ((show Tryd.prog.funcNamed "guichet/guichetlaw16.MoneyRight" = some 3 by kernel_rfl).symm.trans hf) |>.symm
      obtain rfl : fn = Tryd.f3 := (Option.some.inj (Tryd.func3.symm.trans hfn)).symm
      exact ⟨by kernel_rfl, fun j t ht => by
        rw [Tryd.params3] at ht
        have hm : t ∈ [26, 5, 5, 5, 2, 2] := by simpa using Array.mem_of_getElem? ht
        have hall : ([26, 5, 5, 5, 2, 2].all fun u => !Tryd.prog.wantsStandIn u) = true := by kernel_rfl
        exact (show Tryd.prog.wantsStandIn t = false by simpa using List.all_eq_true.1 hall t hm)⟩)
    (by kernel_rfl)
#print axioms moneyRight_card
end Go.Proofs.YtjheabcffkbfkaaDoor
