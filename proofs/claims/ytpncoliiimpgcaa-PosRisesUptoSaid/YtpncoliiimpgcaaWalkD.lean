/- The walk of awake, and of two laws. -/
import Derived.Test.YtpncoliiimpgcaaWalkC
namespace Go.Proofs.Ytpncoliiimpgcaa
open Go.RowKit

/-- The example's text. -/
def abc : ByteArray := ⟨#[97, 98, 10, 99]⟩
theorem abc_begs : begs abc = [0, 3, 5] := by decide +kernel
theorem abc_size : abc.size = 4 := rfl

theorem Below.lines {w w' : World} {b g cap : Nat} {s : ByteArray} {B : List Int} (h : IsLines w b s g cap B) (hb : Below w.heap.size w w') : IsLines w' b s g cap B := h.below hb

theorem abc_place4 {w : World} {b g cap : Nat} (h : IsLines w b abc g cap (begs abc)) :
    Calls Try.prog 12 #[.pointer (some ⟨b, 0, none⟩), .int .i64 4] w fun e w' => e = .returned (.tuple #[.int .i64 2, .int .i64 2, .int .i64 0]) ∧ Below w.heap.size w w' := by
  rw [abc_begs] at h
  have q1 : ∀ t, t < 2 → ¬ ((4 : Nat) : Int) < ([0, 3, 5] : List Int).getD t 0 := by
    intro t ht
    match t, ht with
    | 0, _ => simp
    | 1, _ => simp
  have q2 : ∀ t, 2 ≤ t → t < ([0, 3, 5] : List Int).length → ((4 : Nat) : Int) < ([0, 3, 5] : List Int).getD t 0 := by
    intro t h1 h2
    simp at h2
    have h3 : t = 2 := by omega
    subst h3
    simp
  exact place_yes h (by simp) 4 (by rw [abc_size]; simp) (by rw [abc_size]; simp) 2 (by omega) (by simp) q1 q2 (by simp)
theorem abc_place5 {w : World} {b g cap : Nat} (h : IsLines w b abc g cap (begs abc)) :
    Calls Try.prog 12 #[.pointer (some ⟨b, 0, none⟩), .int .i64 5] w fun e w' => e = .returned (.tuple #[.int .i64 0, .int .i64 0, .int .i64 10]) ∧ Below w.heap.size w w' :=
  place_no h 5 (.inr (by rw [abc_size]; simp))
theorem abc_line {w : World} {b g cap : Nat} (h : IsLines w b abc g cap (begs abc)) :
    Calls Try.prog 18 #[.pointer (some ⟨b, 0, none⟩), .int .i64 2] w fun e w' => e = .returned (.tuple #[.string ⟨#[99]⟩, .int .i64 0]) ∧ Below w.heap.size w w' := by
  rw [abc_begs] at h
  refine (line_yes h (by simp) 2 (by omega) (by simp) (by simp) (by simp) (by rw [abc_size]; simp) (by rw [abc_size]; simp)).mono ?_
  rintro e w' ⟨rfl, hd⟩
  exact ⟨rfl, hd.bel⟩
theorem abc_at {w : World} {b g cap : Nat} (h : IsLines w b abc g cap (begs abc)) :
    Calls Try.prog 16 #[.pointer (some ⟨b, 0, none⟩), .int .i64 2, .int .i64 2] w fun e w' => e = .returned (.tuple #[.int .i64 4, .int .i64 0]) ∧ Below w.heap.size w w' := by
  rw [abc_begs] at h
  refine (at_yes h (by simp) 2 (by omega) (by simp) (by simp) (by simp) (by rw [abc_size]; simp) (by rw [abc_size]; simp) 2 (by omega) (by simp)).mono ?_
  rintro e w' ⟨rfl, hd⟩
  exact ⟨rfl, hd.bel⟩
theorem abc_count {w : World} {b g cap : Nat} (h : IsLines w b abc g cap (begs abc)) :
    Calls Try.prog 14 #[.pointer (some ⟨b, 0, none⟩)] w fun e w' => e = .returned (.int .i64 2) ∧ w = w' := by
  rw [abc_begs] at h
  exact count_some h (by simp) (by simp)

set_option maxRecDepth 100000 in
set_option maxHeartbeats 2000000 in
theorem awake_any (w : World) : Calls Try.prog 10 #[] w fun e w' => e = .returned (.bool true) ∧ Below w.heap.size w w' := by
  go_enter Try.func10, Try.ntmps10
  go_wp2_with (fail)
  refine (new_any abc _ (by rw [abc_size]; omega)).mono ?_
  rintro e w1 ⟨b, g, cap, rfl, h1, hb1⟩
  go_wp2_with (fail)
  refine (abc_place4 h1).mono ?_
  rintro e w2 ⟨rfl, hb2⟩
  have h2 := h1.below hb2
  have b2 := Lib.hid (bel_trans hb1 hb2)
  clear h1 hb1 hb2
  go_wp2_with (fail)
  refine (abc_at h2).mono ?_
  rintro e w3 ⟨rfl, hb3⟩
  have h3 := h2.below hb3
  have b3 := Lib.hid (bel_trans b2.out hb3)
  clear h2 b2 hb3
  go_wp2_with (fail)
  refine (abc_line h3).mono ?_
  rintro e w4 ⟨rfl, hb4⟩
  have h4 := h3.below hb4
  have b4 := Lib.hid (bel_trans b3.out hb4)
  clear h3 b3 hb4
  go_wp2_with (fail)
  refine (abc_place5 h4).mono ?_
  rintro e w5 ⟨rfl, hb5⟩
  have h5 := h4.below hb5
  have b5 := Lib.hid (bel_trans b4.out hb5)
  clear h4 b4 hb5
  go_wp2_with (go_at_call 14; refine (abc_count h5).mono ?_; rintro e w' ⟨rfl, rfl⟩)
  go_ret
  exact ⟨rfl, b5.out⟩

theorem names_any (w : World) : Calls Try.prog 3 #[] w fun e w' => e = .returned (.bool true) ∧ Below w.heap.size w w' := by
  go_enter Try.func3, Try.ntmps3
  go_wp2_with (go_at_call 10; refine (awake_any _).mono ?_; rintro e w1 ⟨rfl, hb1⟩)
  go_ret
  exact ⟨rfl, hb1⟩

end Go.Proofs.Ytpncoliiimpgcaa
