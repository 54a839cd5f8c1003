/- The library's contracts for strconv.FormatInt at base 10, strconv.Atoi, strings.IndexByte, Cut, Repeat, and the premise on the library's table, in the form that the printed texts use. -/
import Derived.Test.YtjheabcffkbfkaaDoorT0
import Derived.Test.YtjheabcffkbfkaaDoorShelfT
import Derived.Lib.AppendIntMem
import Derived.ShapedOpen
namespace Go.Proofs.YtjheabcffkbfkaaDoor.T
open Go.RowKit Go.Proofs.YtjheabcffkbfkaaDoorV.PrintWords Go.Proofs.YtjheabcffkbfkaaDoorV.PrintLast Go.Proofs.YtjheabcffkbfkaaDoorV.PrintMore
set_option linter.unusedVariables false
set_option linter.unusedSimpArgs false

/-- What the library's code reads: its table of powers of ten, and what it keeps beside. -/
structure Good (w : World) : Prop where
  tab : Lib.TabIs Tryd.prog w "internal/strconv.uint64pow10" .u64 Lib.pow10Tab
  shaped : w.ShapedOpen Tryd.prog
/-- It stands, and nothing that a call leaves alone turns it. -/
def TabH (w : World) : Prop := ∀ w', Below w.heap.size w w' → Good w'
theorem TabH.here {w : World} (h : TabH w) : Good w := h w (Below.refl _ _)
theorem TabH.below {w w' : World} (h : TabH w) (hb : Below w.heap.size w w') : TabH w' :=
  fun w'' h'' => h w'' (hb.trans (h''.mono hb.size))

def strconv_FormatInt.f (a0 : Int) (a1 : Int) : Option ByteArray :=
  if a1 = 10 ∧ -9223372036854775808 ≤ a0 ∧ a0 ≤ 9223372036854775807 then some ⟨(Lib.itoa a0).toArray⟩ else none
theorem strconv_FormatInt.calls (a0 : Int) (a1 : Int) (r : ByteArray) (w : World) (hT : TabH w) (h : strconv_FormatInt.f a0 a1 = some r) :
    Calls Tryd.prog 40 #[.int .i64 a0, .int .i64 a1] w fun e w' => e = .returned (.string r) ∧ Below w.heap.size w w' := by
  unfold strconv_FormatInt.f at h
  split at h
  · rename_i hc
    obtain ⟨rfl, h0, h1⟩ := hc
    obtain rfl := Option.some.inj h
    refine (Tryd.strconv_FormatInt_10 a0 h0 h1 w hT.here.tab).mono ?_
    rintro e w' ⟨rfl, k, os, rfl⟩
    exact ⟨rfl, Lib.below_grow _ _ (Nat.le_refl _) _ _⟩
  · cases h


def strings_Cut.f (a0 : ByteArray) (a1 : ByteArray) : Option (ByteArray × ByteArray × Bool) :=
  if a0.size < 4294967281 then some (⟨(Lib.cut a0.data.toList a1.data.toList).1.toArray⟩, ⟨(Lib.cut a0.data.toList a1.data.toList).2.1.toArray⟩, (Lib.cut a0.data.toList a1.data.toList).2.2) else none
theorem strings_Cut.calls (a0 : ByteArray) (a1 : ByteArray) (r1 : ByteArray) (r2 : ByteArray) (r3 : Bool) (w : World) (hT : TabH w) (h : strings_Cut.f a0 a1 = some (r1, r2, r3)) :
    Calls Tryd.prog 26 #[.string a0, .string a1] w fun e w' => e = .returned (.tuple #[.string r1, .string r2, .bool r3]) ∧ Below w.heap.size w w' := by
  unfold strings_Cut.f at h
  split at h
  · rename_i hs
    obtain ⟨rfl, h2⟩ := Prod.mk.inj (Option.some.inj h)
    obtain ⟨rfl, rfl⟩ := Prod.mk.inj h2
    refine (Tryd.strings_Cut_shaped a0 a1 w hT.here.shaped hs).mono ?_
    rintro e w' ⟨rfl, n, rfl⟩
    exact ⟨rfl, ⟨rfl, rfl, rfl, Nat.le_refl _, fun _ _ => rfl⟩⟩
  · cases h
set_option maxRecDepth 100000 in
theorem hasPrefix_one (c : UInt8) (l : List UInt8) (b : Bool) (hb : (c == 48) = b) (w : World) :
    Calls Tryd.prog 54 #[.string ⟨(c :: l).toArray⟩, .string ⟨#[48]⟩] w fun e w' => e = .returned (.bool b) ∧ w = w' := by
  have hf : (((⟨(c :: l).toArray⟩ : ByteArray).extract 0 1).toList == [48]) = b := by
    rw [Lib.extract_toList]
    simpa using hb
  clear hb
  go_enter Tryd.func54, Tryd.ntmps54
  go_wp2
  go_ret
  exact ⟨rfl, rfl⟩
set_option maxRecDepth 100000 in
theorem bits_mul_one (n : Int) (h0 : 0 ≤ n) (h1 : n ≤ 18) (w : World) :
    Calls Tryd.prog 53 #[.int .u64 1, .int .u64 n] w fun e w' => e = .returned (.tuple #[.int .u64 0, .int .u64 n]) ∧ w = w' := by
  have hx : n = 0 ∨ n = 1 ∨ n = 2 ∨ n = 3 ∨ n = 4 ∨ n = 5 ∨ n = 6 ∨ n = 7 ∨ n = 8 ∨ n = 9 ∨ n = 10 ∨ n = 11 ∨ n = 12 ∨ n = 13 ∨ n = 14 ∨ n = 15 ∨ n = 16 ∨ n = 17 ∨ n = 18 := by omega
  clear h0 h1
  rcases hx with rfl | rfl | rfl | rfl | rfl | rfl | rfl | rfl | rfl | rfl | rfl | rfl | rfl | rfl | rfl | rfl | rfl | rfl | rfl
  all_goals
    go_enter Tryd.func53, Tryd.ntmps53
    go_wp2
    refine bodyPost_ret (results_tmp2 rfl _ _ _) rfl ?_
    exact ⟨by kernel_rfl, rfl⟩
def strings_Repeat.f (a0 : ByteArray) (a1 : Int) : Option ByteArray :=
  if a0 = ⟨#[48]⟩ ∧ 0 ≤ a1 ∧ a1 ≤ 18 then some ⟨(List.replicate a1.toNat 48).toArray⟩ else none
set_option maxRecDepth 100000 in
set_option maxHeartbeats 1000000 in
theorem strings_Repeat.calls (a0 : ByteArray) (a1 : Int) (r : ByteArray) (w : World) (h : strings_Repeat.f a0 a1 = some r) :
    Calls Tryd.prog 41 #[.string a0, .int .i64 a1] w fun e w' => e = .returned (.string r) ∧ Below w.heap.size w w' := by
  unfold strings_Repeat.f at h
  split at h
  · rename_i hc
    obtain ⟨rfl, h0, h1⟩ := hc
    obtain rfl := Option.some.inj h
    clear h
    have hx : a1 = 0 ∨ a1 = 1 ∨ a1 = 2 ∨ a1 = 3 ∨ a1 = 4 ∨ a1 = 5 ∨ a1 = 6 ∨ a1 = 7 ∨ a1 = 8 ∨ a1 = 9 ∨ a1 = 10 ∨ a1 = 11 ∨ a1 = 12 ∨ a1 = 13 ∨ a1 = 14 ∨ a1 = 15 ∨ a1 = 16 ∨ a1 = 17 ∨ a1 = 18 := by omega
    rcases hx with rfl | rfl | rfl | rfl | rfl | rfl | rfl | rfl | rfl | rfl | rfl | rfl | rfl | rfl | rfl | rfl | rfl | rfl | rfl
    all_goals
      clear h0 h1
      go_enter Tryd.func41, Tryd.ntmps41
      go_wp2_with (first | (go_at_call 53; refine (bits_mul_one _ (by decide) (by decide) _).mono ?_; rintro e w' ⟨rfl, rfl⟩) | (go_at_call 54; refine (hasPrefix_one _ _ _ rfl _).mono ?_; rintro e w' ⟨rfl, rfl⟩))
      go_ret
      exact ⟨by kernel_rfl, Below.refl _ _⟩
  · cases h
def strconv_Atoi.f (a0 : ByteArray) : Option (Int × Option Int) := if a0.size ≤ 18 then (Lib.atoi a0.data.toList).map fun n => (n, none) else none
theorem strconv_Atoi.calls (a0 : ByteArray) (r1 : Int) (r2 : Option Int) (w : World) (hT : TabH w) (h : strconv_Atoi.f a0 = some (r1, r2)) :
    Calls Tryd.prog 61 #[.string a0] w fun e w' => e = .returned (.tuple #[.int .i64 r1, errW r2]) ∧ Below w.heap.size w w' := by
  unfold strconv_Atoi.f at h
  split at h
  · rename_i hs
    obtain ⟨n, hn, he⟩ := Option.map_eq_some_iff.mp h
    obtain ⟨rfl, rfl⟩ := Prod.mk.inj he
    refine (Tryd.strconv_Atoi a0 n hs hn w).mono ?_
    rintro e w' ⟨rfl, t, rfl⟩
    exact ⟨rfl, bytes_below (Below.refl _ _) (Nat.le_refl _) _ _⟩
  · cases h
def strings_IndexByte.f (a0 : ByteArray) (a1 : Int) : Option Int := some (Lib.indexByte a0.data.toList a1.toNat.toUInt8)
theorem strings_IndexByte.calls (a0 : ByteArray) (a1 : Int) (r : Int) (w : World) (h : strings_IndexByte.f a0 a1 = some r) :
    Calls Tryd.prog 45 #[.string a0, .int .u8 a1] w fun e w' => e = .returned (.int .i64 r) ∧ Below w.heap.size w w' := by
  obtain rfl := Option.some.inj h
  refine (Tryd.strings_IndexByte a0 a1 w).mono ?_
  rintro e w' ⟨rfl, rfl⟩
  exact ⟨rfl, Below.refl _ _⟩
end Go.Proofs.YtjheabcffkbfkaaDoor.T
