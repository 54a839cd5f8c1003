/- Contracts of functions that the printer doesn't take (slices.Grow of nil, strings.Repeat of a nought, guichetref1.Dec), in the form that the printed texts use. -/
import Derived.Test.YtjheabcffkbfkaaDoorXB
namespace Go.Proofs.YtjheabcffkbfkaaDoor.X
open Go.RowKit Go.Proofs.YtjheabcffkbfkaaDoorW.PrintWords Go.Proofs.YtjheabcffkbfkaaDoorW.PrintLast Go.Proofs.YtjheabcffkbfkaaDoorW.PrintMore
set_option linter.unusedVariables false
set_option linter.unusedSimpArgs false


set_option maxRecDepth 100000 in
theorem hasPrefix_one (c : UInt8) (l : List UInt8) (b : Bool) (hb : (c == 48) = b) (w : World) :
    Calls Tryd.prog 54 #[.string ⟨(c :: l).toArray⟩, .string ⟨#[48]⟩] w fun e w' => e = .returned (.bool b) ∧ w = w' := by
  have hf : (((⟨(c :: l).toArray⟩ : ByteArray).extract 0 1).toList == [48]) = b := by
    rw [Lib.extract_toList]
    simpa using hb
  clear hb
  go_enter Tryd.func54, Tryd.ntmps54
  go_wp2
  go_ret
  exact ⟨rfl, rfl⟩
set_option maxRecDepth 100000 in
theorem bits_mul_one (n : Int) (h0 : 0 ≤ n) (h1 : n ≤ 18) (w : World) :
    Calls Tryd.prog 53 #[.int .u64 1, .int .u64 n] w fun e w' => e = .returned (.tuple #[.int .u64 0, .int .u64 n]) ∧ w = w' := by
  have hx : n = 0 ∨ n = 1 ∨ n = 2 ∨ n = 3 ∨ n = 4 ∨ n = 5 ∨ n = 6 ∨ n = 7 ∨ n = 8 ∨ n = 9 ∨ n = 10 ∨ n = 11 ∨ n = 12 ∨ n = 13 ∨ n = 14 ∨ n = 15 ∨ n = 16 ∨ n = 17 ∨ n = 18 := by omega
  clear h0 h1
  rcases hx with rfl | rfl | rfl | rfl | rfl | rfl | rfl | rfl | rfl | rfl | rfl | rfl | rfl | rfl | rfl | rfl | rfl | rfl | rfl
  all_goals
    go_enter Tryd.func53, Tryd.ntmps53
    go_wp2
    refine bodyPost_ret (results_tmp2 rfl _ _ _) rfl ?_
    exact ⟨by kernel_rfl, rfl⟩
def strings_Repeat.f (a0 : ByteArray) (a1 : Int) : Option ByteArray :=
  if a0 = ⟨#[48]⟩ ∧ 0 ≤ a1 ∧ a1 ≤ 18 then some ⟨(List.replicate a1.toNat 48).toArray⟩ else none
set_option maxRecDepth 100000 in
set_option maxHeartbeats 1000000 in
theorem strings_Repeat.calls (a0 : ByteArray) (a1 : Int) (r : ByteArray) (w : World) (h : strings_Repeat.f a0 a1 = some r) :
    Calls Tryd.prog 41 #[.string a0, .int .i64 a1] w fun e w' => e = .returned (.string r) ∧ Below w.heap.size w w' := by
  unfold strings_Repeat.f at h
  split at h
  · rename_i hc
    obtain ⟨rfl, h0, h1⟩ := hc
    obtain rfl := Option.some.inj h
    clear h
    have hx : a1 = 0 ∨ a1 = 1 ∨ a1 = 2 ∨ a1 = 3 ∨ a1 = 4 ∨ a1 = 5 ∨ a1 = 6 ∨ a1 = 7 ∨ a1 = 8 ∨ a1 = 9 ∨ a1 = 10 ∨ a1 = 11 ∨ a1 = 12 ∨ a1 = 13 ∨ a1 = 14 ∨ a1 = 15 ∨ a1 = 16 ∨ a1 = 17 ∨ a1 = 18 := by omega
    rcases hx with rfl | rfl | rfl | rfl | rfl | rfl | rfl | rfl | rfl | rfl | rfl | rfl | rfl | rfl | rfl | rfl | rfl | rfl | rfl
    all_goals
      clear h0 h1
      go_enter Tryd.func41, Tryd.ntmps41
      go_wp2_with (first | (go_at_call 53; refine (bits_mul_one _ (by decide) (by decide) _).mono ?_; rintro e w' ⟨rfl, rfl⟩) | (go_at_call 54; refine (hasPrefix_one _ _ _ rfl _).mono ?_; rintro e w' ⟨rfl, rfl⟩))
      go_ret
      exact ⟨by kernel_rfl, Below.refl _ _⟩
  · cases h
end Go.Proofs.YtjheabcffkbfkaaDoor.X
