/- strconv.FormatUint at base 10: the decimal numeral of every uint64. -/
import Derived.Test.YtjheabcffkbfkaaDoorXB
import Derived.Lib.ItoaMem
import Derived.BigCall
import Derived.BigGuard
namespace Go.Proofs.YtjheabcffkbfkaaDoor.X
open Go.RowKit Go.Shelf Go.Sort Go.Lib Go.Proofs.YtjheabcffkbfkaaDoorW.PrintWords Go.Proofs.YtjheabcffkbfkaaDoorW.PrintLast Go.Proofs.YtjheabcffkbfkaaDoorW.PrintMore
set_option linter.unusedVariables false
set_option linter.unusedSimpArgs false

theorem holds_zero0 (w : World) (T : TypeId) (nd : Nat) (hs : nd ≤ 24) : Holds (fun (b : UInt8) => Value.int .u8 (b.toNat : Int)) (w.alloc (.cells zeros24 T)) w.heap.size 0 (Array.replicate nd (0 : UInt8)) := fun j hj => by
  have hj' : j < nd := by simpa using hj
  refine ⟨?_, World.frozen?_alloc_new _ _ _ _⟩
  rw [World.cell?_alloc_new, zeros24_at _ (by omega), getElem!_pos _ j hj]
  simp
theorem fin_pos0 (w : World) (o : Obj) (dk : Array UInt8) (k : Nat) : ∃ os, (putRow (fun (b : UInt8) => Value.int .u8 (b.toNat : Int)) (w.alloc o) w.heap.size 0 dk).drewN k = grow (w.drewN k) os := by
  rw [alloc_eq_grow]
  obtain ⟨os', _, e⟩ := putRow_grow_new (fun (b : UInt8) => Value.int .u8 (b.toNat : Int)) w #[o] w.heap.size 0 dk (Nat.le_refl _)
  exact ⟨os', by rw [e]; rfl⟩

set_option maxHeartbeats 6400000 in
set_option maxRecDepth 100000 in
theorem format_uint (u : Nat) (hu64 : u < 18446744073709551616) (w : World) (htab : Lib.TabIs Tryd.prog w "internal/strconv.uint64pow10" .u64 Lib.pow10Tab) :
    Calls Tryd.prog 42 #[.int .u64 u, .int .i64 10] w fun e w' => e = .returned (.string ⟨(Lib.decDigits u).toArray⟩) ∧ ∃ k os, w' = grow (w.drewN k) os := by
  by_cases hs : u < 100
  · have HU := Lib.hid hu64
    clear hu64
    go_enter Tryd.func42, Tryd.ntmps42
    go_wp2_with (go_at_call 57; refine (Tryd.internal_strconv_small u hs _).mono ?_; rintro e w' ⟨rfl, rfl⟩)
    go_ret
    exact ⟨rfl, 0, #[], by simp [World.drewN_zero]⟩
  · have hu1 : 1 ≤ u := by omega
    have hnd20 : Lib.nDigits u ≤ 20 := by have := Lib.numDigits_eq u hu1 hu64; split at this <;> omega
    have hb3 : Lib.nDigits u ≤ 24 := by omega
    have hal : Tryd.prog.arrayLen 111 = 24 := by simp [Program.arrayLen, Tryd.underlying111]
    have hsl1 : ∀ W, (Instr.sliceAt 111 (.pointer (some ⟨w.heap.size, 0, none⟩)) none (some (.int .i64 ((Lib.nDigits u : Int)))) none).run Tryd.prog W = .ok (.slice (some ⟨w.heap.size, 0, none⟩) (Lib.nDigits u) 24) W := fun W => by
      rw [run_sliceAt_array_h W 111 ⟨w.heap.size, 0, none⟩ (by simp [Program.arrayLen, Program.elem, Tryd.underlying111]) .i64 ((Lib.nDigits u : Int)) (by omega) (by rw [hal]; omega)]
      go_simp
      try omega
    have hH0 := holds_zero0 w 111 (Lib.nDigits u) (by omega)
    have hfmt := Tryd.internal_strconv_formatBase10 w.heap.size 0 24 u (Array.replicate (Lib.nDigits u) 0) (w.alloc (.cells Lib.zeros24 111)) hH0 (by rw [Array.size_replicate]; exact Lib.lt_pow_nDigits u) hu64 (by rw [Array.size_replicate]; omega)
    rw [Array.size_replicate] at hfmt
    have HH0 := Lib.hid hH0
    have ND := Lib.hid (fun W h => Tryd.internal_strconv_numDigits u hu1 hu64 W h)
    have HS := Lib.hid hs
    have hsb : decide ((u : Int) < 100) = false := by simp; omega
    have HF := Lib.hid hfmt
    clear hH0 hal hu64 hfmt hs hnd20
    go_enter Tryd.func42, Tryd.ntmps42
    go_wp2_with (first
      | (go_at_call 58; refine (ND.out _ (Lib.tabIs_alloc htab _)).mono ?_; rintro e w' ⟨rfl, rfl⟩))
    go_at_call 59
    refine HF.out.mono ?_
    rintro e w' ⟨rfl, k, v', dk, rfl, hF⟩
    have hcv : (convert 82 9 (.slice (some ⟨w.heap.size, 0, none⟩) (Lib.nDigits u) 24)).run Tryd.prog ((putRow (fun (b : UInt8) => Value.int .u8 (b.toNat : Int)) (w.alloc (.cells Lib.zeros24 111)) w.heap.size 0 dk).drewN k) = .ok (.string ⟨(Lib.decDigits u).toArray⟩) ((putRow (fun (b : UInt8) => Value.int .u8 (b.toNat : Int)) (w.alloc (.cells Lib.zeros24 111)) w.heap.size 0 dk).drewN k) := by
      have h := run_convert_bytes_back (P := Tryd.prog) ((putRow (fun (b : UInt8) => Value.int .u8 (b.toNat : Int)) (w.alloc (.cells Lib.zeros24 111)) w.heap.size 0 dk).drewN k) 82 9 5 ⟨w.heap.size, 0, none⟩ 24 (Lib.decDigits u) Tryd.underlying82 Tryd.underlying5 Tryd.underlying9 (fun j hj => by
        rw [Lib.row_is_numeral hF j hj, Lib.add_plain, World.cell?_drewN]
        exact cell?_putRow (fun (b : UInt8) => Value.int .u8 (b.toNat : Int)) _ w.heap.size 0 _ dk HH0.out (by rw [hF.size, Array.size_replicate]) j (by rw [hF.size]; rw [Lib.decDigits_length] at hj; exact hj))
      rw [Lib.decDigits_length] at h
      exact h
    go_wp2
    go_ret
    obtain ⟨os, eo⟩ := fin_pos0 w (.cells Lib.zeros24 111) dk k
    exact ⟨rfl, k, os, eo⟩

def strconv_FormatUint.f (a0 : Int) (a1 : Int) : Option ByteArray :=
  if a1 = 10 ∧ 0 ≤ a0 ∧ a0 ≤ 18446744073709551615 then some ⟨(Lib.decDigits a0.toNat).toArray⟩ else none
set_option maxRecDepth 100000 in
theorem strconv_FormatUint.calls (a0 : Int) (a1 : Int) (r : ByteArray) (w : World) (hT : TabH w) (h : strconv_FormatUint.f a0 a1 = some r) :
    Calls Tryd.prog 29 #[.int .u64 a0, .int .i64 a1] w fun e w' => e = .returned (.string r) ∧ Below w.heap.size w w' := by
  unfold strconv_FormatUint.f at h
  split at h
  · rename_i hc
    obtain ⟨rfl, h0, h1⟩ := hc
    obtain rfl := Option.some.inj h
    obtain ⟨u, rfl⟩ := Int.eq_ofNat_of_zero_le h0
    have FU := Lib.hid (format_uint u (by omega) w hT.here.tab)
    clear h h1 h0
    go_enter Tryd.func29, Tryd.ntmps29
    go_wp2_with (go_at_call 42; refine FU.out.mono ?_; rintro e w' ⟨rfl, k, os, rfl⟩)
    go_ret
    exact ⟨rfl, Lib.below_grow _ _ (Nat.le_refl _) _ _⟩
  · cases h
end Go.Proofs.YtjheabcffkbfkaaDoor.X
