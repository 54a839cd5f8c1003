/- guichet/money.Text of 1205 (all that guichetlaw16.known asks). -/
import Derived.Test.YtjheabcffkbfkaaDoorXU
namespace Go.Proofs.YtjheabcffkbfkaaDoor.X
open Go.RowKit Go.Proofs.YtjheabcffkbfkaaDoorW.PrintWords Go.Proofs.YtjheabcffkbfkaaDoorW.PrintLast Go.Proofs.YtjheabcffkbfkaaDoorW.PrintMore
set_option linter.unusedVariables false
set_option linter.unusedSimpArgs false

set_option maxRecDepth 100000 in
theorem format_twelve (w : World) : Calls Tryd.prog 29 #[.int .u64 12, .int .i64 10] w fun e w' => e = .returned (.string ⟨#[49, 50]⟩) ∧ w' = w := by
  have h1 : ∀ W, Calls Tryd.prog 42 #[.int .u64 12, .int .i64 10] W fun e w' => e = .returned (.string ⟨#[49, 50]⟩) ∧ w' = W := by
    intro W
    go_enter Tryd.func42, Tryd.ntmps42
    go_wp2_with (go_at_call 57; refine (Tryd.internal_strconv_small 12 (by omega) _).mono ?_; rintro e w' ⟨rfl, rfl⟩)
    go_ret
    exact ⟨by kernel_rfl, rfl⟩
  go_enter Tryd.func29, Tryd.ntmps29
  go_wp2_with (go_at_call 42; refine (h1 _).mono ?_; rintro e w' ⟨rfl, rfl⟩)
  go_ret
  exact ⟨rfl, rfl⟩

def money_Text.f (a0 : Int) : Option ByteArray := if a0 = 1205 then some ⟨#[49, 50, 46, 48, 53]⟩ else none
set_option maxHeartbeats 4000000 in
set_option maxRecDepth 100000 in
theorem money_Text.calls (a0 : Int) (r : ByteArray) (w : World) (hT : TabH w) (h : money_Text.f a0 = some r) :
    Calls Tryd.prog 15 #[.int .i64 a0] w fun e w' => e = .returned (.string r) ∧ Below w.heap.size w w' := by
  unfold money_Text.f at h
  split at h
  · rename_i hc
    subst hc
    obtain rfl := Option.some.inj h
    clear h
    have HT := Aside0.mk hT
    clear hT
    have e1 : strconv_FormatUint.f 105 10 = some ⟨#[49, 48, 53]⟩ := by kernel_rfl
    have E1 := Aside0.mk e1
    clear e1
    go_enter Tryd.func15, Tryd.ntmps15
    go_wp2_with (go_at_call 29; (with_reducible refine (strconv_FormatUint.calls 105 10 _ w HT.out E1.out).mono ?_); rintro e w1 ⟨rfl, hb1⟩)
    go_quiet ((go_at_call 29; exact Calls.quiet_of_same (format_twelve _)))
    go_wp2
    go_ret
    exact ⟨by kernel_rfl, pw_below_drewN hb1 _⟩
  · cases h
end Go.Proofs.YtjheabcffkbfkaaDoor.X
