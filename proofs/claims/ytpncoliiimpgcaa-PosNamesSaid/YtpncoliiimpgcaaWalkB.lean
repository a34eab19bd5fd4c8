/- Walks of (*pos.Lines).Place and its closure. -/
import Derived.Test.YtpncoliiimpgcaaWalkA
import Derived.Deep.LoopGhost
import Derived.Handy
namespace Go.Proofs.Ytpncoliiimpgcaa
open Go.RowKit

theorem IsLines.drewN {w : World} {b g cap : Nat} {s : ByteArray} {B : List Int} (h : IsLines w b s g cap B) (n : Nat) : IsLines (w.drewN n) b s g cap B := ⟨h.text, h.row, h.cells⟩

/-- The closure that Place hands to the search. -/
theorem behind_at {w : World} {b g cap : Nat} {s : ByteArray} {B : List Int} (h : IsLines w b s g cap B) 
    (at_ : Int) (c d : Nat) (hc : w.cell? ⟨c, 0, none⟩ = some (.pointer (some ⟨b, 0, none⟩))) (hd : w.cell? ⟨d, 0, none⟩ = some (.int .i64 at_)) (i : Nat) (hi : i < B.length) :
    Calls Try.prog 20 #[.int .i64 i, .pointer (some ⟨c, 0, none⟩), .pointer (some ⟨d, 0, none⟩)] w fun e w' => e = .returned (.bool (decide (at_ < B.getD i 0))) ∧ Drew w w' := by
  have hr := h.row
  have hci := h.cells i hi
  generalize B.getD i 0 = x at *
  have e2 : 0 ≤ (i : Int) := by omega
  have e3 : (i : Int) < B.length := by omega
  clear h
  go_enter Try.func20, Try.ntmps20
  go_wp2
  go_quiet (fail)
  go_wp2
  go_ret
  exact ⟨rfl, Drew.step (Drew.refl _) _⟩

/-- What holds while the search goes on. -/
def Between (p : Nat → Bool) (n lo hi : Nat) : Prop := (∀ t, t < lo → p t = false) ∧ (∀ t, hi ≤ t → t < n → p t = true)

set_option maxHeartbeats 1000000 in
/-- sort.Search with a closure that only reads. -/
theorem search_any (cb : Array Value) (n : Nat) (p : Nat → Bool) (w : World) (r : Nat) (hsz : n < 4611686018427387904)
    (hf : ∀ (m : Nat) (i : Nat), i < n → Calls Try.prog 20 (#[.int .i64 i] ++ cb) (w.drewN m) fun e w' => e = .returned (.bool (p i)) ∧ Drew (w.drewN m) w')
    (hr : r ≤ n) (h1 : ∀ t, t < r → p t = false) (h2 : ∀ t, r ≤ t → t < n → p t = true) :
    Calls Try.prog 21 #[.int .i64 n, .func (.func 20) #[] cb] w fun e w' => e = .returned (.int .i64 r) ∧ Drew w w' := by
  have HF := Lib.hid hf
  have M := Lib.hid h1
  have M2 := Lib.hid h2
  clear hf h1 h2
  go_enter Try.func21, Try.ntmps21
  go_wp2
  go_loopg [5, 6] n (fun kx s5 s6 wr => ∃ (lo hi q : Nat), s5 = .int .i64 lo ∧ s6 = .int .i64 hi ∧ lo ≤ hi ∧ hi ≤ n ∧ hi - lo ≤ kx ∧ wr = w.drewN q ∧ lo ≤ r ∧ r ≤ hi)
  case atStart => exact ⟨0, n, 0, rfl, rfl, Nat.zero_le _, Nat.le_refl _, by omega, rfl, by omega, hr⟩
  case round =>
    obtain ⟨lo, hi, q, rfl, rfl, hlh, hin, hg, rfl, I1, I2⟩ := hrel
    by_cases hlt : lo < hi
    · have hc := HF.out q ((lo + hi) / 2) (by omega)
      rw [show (((lo + hi) / 2 : Nat) : Int) = ((lo : Int) + (hi : Int)) / 2 by omega] at hc
      by_cases hm : (lo + hi) / 2 < r
      · rw [M.out _ hm] at hc
        have HC := Lib.hid hc
        clear hc
        go_wp2_with (fail)
        refine HC.out.mono ?_
        rintro e w' ⟨rfl, ⟨nq, rfl⟩⟩
        clear HC
        go_wp2
        go_roundg (hi - ((lo + hi) / 2 + 1))
        case measure => omega
        case rel => exact ⟨(lo + hi) / 2 + 1, hi, q + nq, by rw [show ((lo : Int) + (hi : Int)) / 2 + 1 = (((lo + hi) / 2 + 1 : Nat) : Int) by omega], rfl, by omega, hin, Nat.le_refl _, rfl, by omega, by omega⟩
      · rw [M2.out _ (by omega) (by omega)] at hc
        have HC := Lib.hid hc
        clear hc
        go_wp2_with (fail)
        refine HC.out.mono ?_
        rintro e w' ⟨rfl, ⟨nq, rfl⟩⟩
        clear HC
        go_wp2
        go_roundg ((lo + hi) / 2 - lo)
        case measure => omega
        case rel => exact ⟨lo, (lo + hi) / 2, q + nq, rfl, by rw [show ((lo : Int) + (hi : Int)) / 2 = (((lo + hi) / 2 : Nat) : Int) by omega], by omega, by omega, Nat.le_refl _, rfl, by omega, by omega⟩
    · obtain rfl : hi = lo := by omega
      obtain rfl : hi = r := by omega
      go_wp2
      go_ret
      exact ⟨rfl, ⟨q, rfl⟩⟩

theorem cell_later {W w1 : World} {a : Addr} {v : Value} (hb : Below W.heap.size W w1) (h : W.cell? a = some v) : w1.cell? a = some v :=
  (hb.cell (World.block_lt_of_cell? W a h)).trans h

theorem IsLines.below {w w' : World} {b g cap : Nat} {s : ByteArray} {B : List Int} (h : IsLines w b s g cap B) (hb : Below w.heap.size w w') : IsLines w' b s g cap B :=
  ⟨cell_later hb h.text, cell_later hb h.row, fun i hi => cell_later hb (h.cells i hi)⟩

theorem bel_alloc {w W : World} (h : Below w.heap.size w W) (o : Obj) : Below w.heap.size w (W.alloc o) := h.alloc h.size o
theorem bel_drewN {w W : World} (h : Below w.heap.size w W) (n : Nat) : Below w.heap.size w (W.drewN n) := ⟨h.os, h.tape, h.output, h.size, h.block⟩
theorem bel_drew {w W : World} (h : Below w.heap.size w W) : Below w.heap.size w W.drew := ⟨h.os, h.tape, h.output, h.size, h.block⟩
theorem Drew.bel {w w' : World} (h : Drew w w') : Below w.heap.size w w' := by
  obtain ⟨n, rfl⟩ := h
  exact bel_drewN (Below.refl _ _) n
theorem bel_trans {w w1 w2 : World} (h : Below w.heap.size w w1) (k : Below w1.heap.size w1 w2) : Below w.heap.size w w2 :=
  h.trans ⟨k.os, k.tape, k.output, k.size, fun i hi => k.block i (Nat.lt_of_lt_of_le hi h.size)⟩

theorem place_nil (n : Int) (w : World) : Calls Try.prog 12 #[.pointer none, .int .i64 n] w fun e w' => e = .returned (.tuple #[.int .i64 0, .int .i64 0, .int .i64 1]) ∧ Below w.heap.size w w' := by
  go_enter Try.func12, Try.ntmps12
  go_wp2
  go_ret3
  exact ⟨rfl, bel_alloc (bel_alloc (Below.refl _ _) _) _⟩

theorem place_no {w : World} {b g cap : Nat} {s : ByteArray} {B : List Int} (h : IsLines w b s g cap B) (n : Int) (hn : n < 0 ∨ (s.size : Int) < n) : 
    Calls Try.prog 12 #[.pointer (some ⟨b, 0, none⟩), .int .i64 n] w fun e w' => e = .returned (.tuple #[.int .i64 0, .int .i64 0, .int .i64 10]) ∧ Below w.heap.size w w' := by
  have h0 := h.text
  by_cases h1 : n < 0
  · have hd : decide (n < 0) = true := decide_eq_true h1
    go_enter Try.func12, Try.ntmps12
    go_wp2
    go_quiet (fail)
    go_wp2
    go_ret3
    exact ⟨rfl, bel_drewN (bel_alloc (bel_alloc (Below.refl _ _) _) _) _⟩
  · have hd : decide (n < 0) = false := decide_eq_false h1
    have hd2 : decide ((s.size : Int) < n) = true := decide_eq_true (by omega)
    have h0' := cell_later (bel_alloc (bel_alloc (Below.refl w.heap.size w) (.cells #[.pointer (some ⟨b, 0, none⟩)] 23)) (.cells #[.int .i64 n] 3)) h0
    clear h hn h1
    go_enter Try.func12, Try.ntmps12
    go_wp2
    go_quiet (fail)
    go_wp2
    go_ret3
    exact ⟨rfl, bel_drewN (bel_alloc (bel_alloc (Below.refl _ _) _) _) _⟩

theorem place_yes {w : World} {b g cap : Nat} {s : ByteArray} {B : List Int} (h : IsLines w b s g cap B) (hB : B.length ≤ 1152921504606846976) (n : Nat) (hs : (s.size : Int) ≤ 1152921504606846976) (hn : n ≤ s.size) 
    (r : Nat) (hr0 : 1 ≤ r) (hr : r ≤ B.length) (hr1 : ∀ t, t < r → ¬ (n : Int) < B.getD t 0) (hr2 : ∀ t, r ≤ t → t < B.length → (n : Int) < B.getD t 0) (hx : 0 ≤ B.getD (r - 1) 0) :
    Calls Try.prog 12 #[.pointer (some ⟨b, 0, none⟩), .int .i64 n] w fun e w' => e = .returned (.tuple #[.int .i64 r, .int .i64 (n - B.getD (r - 1) 0 + 1), .int .i64 0]) ∧ Below w.heap.size w w' := by
  have hb2 := bel_alloc (bel_alloc (Below.refl w.heap.size w) (.cells #[.pointer (some ⟨b, 0, none⟩)] 23)) (.cells #[.int .i64 n] 3)
  have h2 := h.below hb2
  have hc : ((w.alloc (.cells #[.pointer (some ⟨b, 0, none⟩)] 23)).alloc (.cells #[.int .i64 n] 3)).cell? ⟨w.heap.size, 0, none⟩ = some (.pointer (some ⟨b, 0, none⟩)) := by go_simp
  have hd : ((w.alloc (.cells #[.pointer (some ⟨b, 0, none⟩)] 23)).alloc (.cells #[.int .i64 n] 3)).cell? ⟨w.heap.size + 1, 0, none⟩ = some (.int .i64 n) := by go_simp
  have HS : Hid (∀ q, Calls Try.prog 21 #[.int .i64 B.length, .func (.func 20) #[] #[.pointer (some ⟨w.heap.size, 0, none⟩), .pointer (some ⟨w.heap.size + 1, 0, none⟩)]] (((w.alloc (.cells #[.pointer (some ⟨b, 0, none⟩)] 23)).alloc (.cells #[.int .i64 n] 3)).drewN q) fun e w' => e = .returned (.int .i64 r) ∧ Drew (((w.alloc (.cells #[.pointer (some ⟨b, 0, none⟩)] 23)).alloc (.cells #[.int .i64 n] 3)).drewN q) w') := by
    refine Lib.hid fun q => search_any _ B.length (fun i => decide ((n : Int) < B.getD i 0)) _ r (by omega) (fun m i hi => ?_) hr (fun t ht => by simpa using hr1 t ht) (fun t h1 h3 => by simpa using hr2 t h1 h3)
    exact behind_at ((h2.drewN q).drewN m) n _ _ hc hd i hi
  have ht := h2.text
  have hw := h2.row
  have hci := h2.cells (r - 1) (by omega)
  have hxn := hr1 (r - 1) (by omega)
  generalize B.getD (r - 1) 0 = x at *
  have hd1 : decide ((n : Int) < 0) = false := decide_eq_false (by omega)
  have hd2 : decide ((s.size : Int) < n) = false := decide_eq_false (by omega)
  have e1 : ((r : Int) - 1).toNat = r - 1 := by omega
  have e2 : 0 ≤ (r : Int) - 1 := by omega
  have e3 : (r : Int) - 1 < B.length := by omega
  clear h h2 hb2 hc hd
  go_enter Try.func12, Try.ntmps12
  go_wp2
  go_quiet (fail)
  go_wp2_with (fail)
  refine (HS.out _).mono ?_
  rintro e w' ⟨rfl, ⟨k, rfl⟩⟩
  go_wp2
  go_quiet (fail)
  go_wp2
  go_ret3
  exact ⟨rfl, by repeat (first | apply bel_drewN | apply bel_alloc | exact Below.refl _ _)⟩
end Go.Proofs.Ytpncoliiimpgcaa
