/- The methods as functions of the text; the laws on none, on later places, and on places found again. -/
import Derived.Test.YtpncoliiimpgcaaWalkD
namespace Go.Proofs.Ytpncoliiimpgcaa
open Go.RowKit
set_option linter.unusedVariables false
set_option linter.unusedVariables false

theorem nil_any (n : Int) (hn : (Lit.int .i64 n).wf = true) (w : World) : Calls Try.prog 9 #[.int .i64 n] w fun e w' => e = .returned (.bool true) ∧ Below w.heap.size w w' := by
  clear hn
  go_enter Try.func9, Try.ntmps9
  go_wp2_with (fail)
  refine (awake_any _).mono ?_
  rintro e w1 ⟨rfl, hb1⟩
  go_wp2_with (fail)
  refine (place_nil n _).mono ?_
  rintro e w2 ⟨rfl, hb2⟩
  have b2 := Lib.hid (bel_trans hb1 hb2)
  clear hb1 hb2
  go_wp2_with (fail)
  refine (at_err n (line_nil n _) rfl).mono ?_
  rintro e w3 ⟨rfl, rfl⟩
  go_wp2_with (fail)
  refine (line_nil n _).mono ?_
  rintro e w3 ⟨rfl, rfl⟩
  go_wp2_with (go_at_call 14; refine (count_nil _).mono ?_; rintro e w' ⟨rfl, rfl⟩)
  go_ret
  exact ⟨rfl, b2.out⟩

/-- Place, of a text. -/
def placeF (s : ByteArray) (n : Int) : Int × Int × Int :=
  if n < 0 ∨ (s.size : Int) < n then (0, 0, 10) else (((begsTo s n.toNat).length : Int), n - lastTo s n.toNat + 1, 0)

theorem place_any {w : World} {b g cap : Nat} {s : ByteArray} (h : IsLines w b s g cap (begs s)) (hs : s.size ≤ 1048576) (n : Int) :
    Calls Try.prog 12 #[.pointer (some ⟨b, 0, none⟩), .int .i64 n] w fun e w' => e = .returned (.tuple #[.int .i64 (placeF s n).1, .int .i64 (placeF s n).2.1, .int .i64 (placeF s n).2.2]) ∧ Below w.heap.size w w' := by
  by_cases hn : n < 0 ∨ (s.size : Int) < n
  · have e : placeF s n = (0, 0, 10) := by unfold placeF; rw [if_pos hn]
    rw [e]
    exact place_no h n hn
  · obtain ⟨k, rfl⟩ := Int.eq_ofNat_of_zero_le (show 0 ≤ n by omega)
    have e : placeF s k = (((begsTo s k).length : Int), k - lastTo s k + 1, 0) := by unfold placeF; rw [if_neg hn]; simp
    obtain ⟨h1, h2, h3, h4, h5⟩ := begs_at s k (by omega)
    have hl := begs_length s
    have hr := lastTo_range s k
    rw [e, ← h5]
    exact place_yes h (by omega) k (by omega) (by omega) (begsTo s k).length h1 (by omega) h3 h4 (by omega)

/-- Line, of a text. -/
def lineF (s : ByteArray) (n : Int) : ByteArray × Int :=
  if n < 1 ∨ ((begs s).length : Int) - 1 < n then (ByteArray.empty, 10) else (s.extract ((begs s).getD (n.toNat - 1) 0).toNat ((begs s).getD n.toNat 0 - 1).toNat, 0)

theorem line_any {w : World} {b g cap : Nat} {s : ByteArray} (h : IsLines w b s g cap (begs s)) (hs : s.size ≤ 1048576) (n : Int) :
    Calls Try.prog 18 #[.pointer (some ⟨b, 0, none⟩), .int .i64 n] w fun e w' => e = .returned (.tuple #[.string (lineF s n).1, .int .i64 (lineF s n).2]) ∧ Below w.heap.size w w' := by
  have hl := begs_length s
  by_cases hn : n < 1 ∨ ((begs s).length : Int) - 1 < n
  · have e : lineF s n = (ByteArray.empty, 10) := by unfold lineF; rw [if_pos hn]
    rw [e]
    by_cases h1 : n < 1
    · refine (line_low n b w h1).mono ?_
      rintro e w' ⟨rfl, rfl⟩
      exact ⟨rfl, Below.refl _ _⟩
    · refine (line_high h (by omega) (by omega) n h1 (by omega)).mono ?_
      rintro e w' ⟨rfl, rfl⟩
      exact ⟨rfl, Below.refl _ _⟩
  · obtain ⟨k, rfl⟩ := Int.eq_ofNat_of_zero_le (show 0 ≤ n by omega)
    have e : lineF s k = (s.extract ((begs s).getD (k - 1) 0).toNat ((begs s).getD k 0 - 1).toNat, 0) := by unfold lineF; rw [if_neg hn]; simp
    have hb := begs_line s k (by omega) (by omega)
    rw [e]
    refine (line_yes h (by omega) k (by omega) (by omega) hb.1 hb.2.1 hb.2.2 (by omega)).mono ?_
    rintro e w' ⟨rfl, hd⟩
    exact ⟨rfl, hd.bel⟩

/-- At, of a text. -/
def atF (s : ByteArray) (n c : Int) : Int × Int :=
  if n < 1 ∨ ((begs s).length : Int) - 1 < n then (0, 10) else
  if c < 1 ∨ (begs s).getD n.toNat 0 - 1 - (begs s).getD (n.toNat - 1) 0 < c - 1 then (0, 10) else ((begs s).getD (n.toNat - 1) 0 + c - 1, 0)

theorem at_any {w : World} {b g cap : Nat} {s : ByteArray} (h : IsLines w b s g cap (begs s)) (hs : s.size ≤ 1048576) (n c : Int) (hc : (Lit.int .i64 c).wf = true) :
    Calls Try.prog 16 #[.pointer (some ⟨b, 0, none⟩), .int .i64 n, .int .i64 c] w fun e w' => e = .returned (.tuple #[.int .i64 (atF s n c).1, .int .i64 (atF s n c).2]) ∧ Below w.heap.size w w' := by
  have hl := begs_length s
  by_cases hn : n < 1 ∨ ((begs s).length : Int) - 1 < n
  · have e : atF s n c = (0, 10) := by unfold atF; rw [if_pos hn]
    rw [e]
    by_cases h1 : n < 1
    · refine (at_err c (line_low n b w h1) rfl).mono ?_
      rintro e w' ⟨rfl, rfl⟩
      exact ⟨rfl, Below.refl _ _⟩
    · refine (at_err c (line_high h (by omega) (by omega) n h1 (by omega)) rfl).mono ?_
      rintro e w' ⟨rfl, rfl⟩
      exact ⟨rfl, Below.refl _ _⟩
  · obtain ⟨k, rfl⟩ := Int.eq_ofNat_of_zero_le (show 0 ≤ n by omega)
    have hb := begs_line s k (by omega) (by omega)
    by_cases hcc : c < 1 ∨ (begs s).getD k 0 - 1 - (begs s).getD (k - 1) 0 < c - 1
    · have e : atF s k c = (0, 10) := by unfold atF; rw [if_neg hn, Int.toNat_natCast, if_pos hcc]
      rw [e]
      refine (at_col h (by omega) k (by omega) (by omega) hb.1 hb.2.1 hb.2.2 (by omega) c hc hcc).mono ?_
      rintro e w' ⟨rfl, hd⟩
      exact ⟨rfl, hd.bel⟩
    · have e : atF s k c = ((begs s).getD (k - 1) 0 + c - 1, 0) := by unfold atF; rw [if_neg hn, Int.toNat_natCast, if_neg hcc]
      rw [e]
      refine (at_yes h (by omega) k (by omega) (by omega) hb.1 hb.2.1 hb.2.2 (by omega) c (by omega) (by omega)).mono ?_
      rintro e w' ⟨rfl, hd⟩
      exact ⟨rfl, hd.bel⟩

theorem count_any {w : World} {b g cap : Nat} {s : ByteArray} (h : IsLines w b s g cap (begs s)) (hs : s.size ≤ 1048576) :
    Calls Try.prog 14 #[.pointer (some ⟨b, 0, none⟩)] w fun e w' => e = .returned (.int .i64 ((begs s).length - 1)) ∧ w = w' := by
  have hl := begs_length s
  exact count_some h (by omega) (by omega)

/-! ### What the laws say, of these functions -/
theorem place_ok (s : ByteArray) (n : Int) : ((placeF s n).2.2 = 0 ∧ 0 ≤ n ∧ n ≤ s.size) ∨ (placeF s n = (0, 0, 10) ∧ (n < 0 ∨ (s.size : Int) < n)) := by
  unfold placeF
  split
  · rename_i h; exact .inr ⟨rfl, h⟩
  · exact .inl ⟨rfl, by omega, by omega⟩

/-- Later places. -/
theorem place_rises (s : ByteArray) (n m : Int) (hn : 0 ≤ n ∧ n ≤ s.size) (hm : 0 ≤ m ∧ m ≤ s.size) :
    ((placeF s n).1 < (placeF s m).1 ∨ ((placeF s n).1 = (placeF s m).1 ∧ (placeF s n).2.1 < (placeF s m).2.1) ↔ n < m) ∧ 1 ≤ (placeF s n).1 ∧ 1 ≤ (placeF s n).2.1 := by
  have mono : ∀ (i j : Nat), i ≤ j → (begsTo s i).length ≤ (begsTo s j).length ∧ ((begsTo s i).length = (begsTo s j).length → lastTo s i = lastTo s j) := by
    intro i j h
    obtain ⟨R, hR, _⟩ := begsTo_more s i (j - i)
    rw [show i + (j - i) = j by omega] at hR
    refine ⟨by rw [hR, List.length_append]; omega, fun e => ?_⟩
    have hR0 : R = [] := by rw [hR, List.length_append] at e; exact List.eq_nil_of_length_eq_zero (by omega)
    rw [← begsTo_last s i, ← begsTo_last s j, hR, hR0, List.append_nil]
  obtain ⟨i, rfl⟩ := Int.eq_ofNat_of_zero_le hn.1
  obtain ⟨j, rfl⟩ := Int.eq_ofNat_of_zero_le hm.1
  unfold placeF
  rw [if_neg (by omega), if_neg (by omega), Int.toNat_natCast, Int.toNat_natCast]
  have h1 := begsTo_length_le s i
  have h2 := lastTo_range s i
  refine ⟨?_, by simp; omega, by simp; omega⟩
  rcases Nat.lt_trichotomy i j with h | h | h
  · have := mono i j (by omega)
    simp only
    constructor
    · intro _; omega
    · intro _
      by_cases e : (begsTo s i).length = (begsTo s j).length
      · have := this.2 e; right; omega
      · left; omega
  · subst h
    simp
  · have := mono j i (by omega)
    simp only
    constructor
    · rintro (h3 | ⟨h3, h4⟩)
      · omega
      · have := this.2 (by omega); omega
    · intro _; omega

/-- A place's line and column lead back. -/
theorem at_place (s : ByteArray) (n : Int) (hn : 0 ≤ n ∧ n ≤ s.size) : atF s (placeF s n).1 (placeF s n).2.1 = (n, 0) := by
  obtain ⟨i, rfl⟩ := Int.eq_ofNat_of_zero_le hn.1
  obtain ⟨h1, h2, h3, h4, h5⟩ := begs_at s i (by omega)
  have e : placeF s i = (((begsTo s i).length : Int), i - lastTo s i + 1, 0) := by unfold placeF; rw [if_neg (by omega)]; simp
  have h6 := lastTo_range s i
  have h7 := h4 _ (Nat.le_refl _) h2
  rw [e]
  unfold atF
  rw [if_neg (by simp; omega)]
  simp only [Int.toNat_natCast, h5]
  rw [if_neg (by omega)]
  rw [Prod.mk.injEq]
  exact ⟨by omega, rfl⟩

/-- A line and column's place leads back. -/
theorem place_at (s : ByteArray) (n c : Int) (h : (atF s n c).2 = 0) : placeF s (atF s n c).1 = (n, c, 0) := by
  unfold atF at h ⊢
  split at h
  · simp at h
  rename_i hn
  rw [if_neg hn]
  split at h
  · simp at h
  rename_i hc
  rw [if_neg hc]
  obtain ⟨k, rfl⟩ := Int.eq_ofNat_of_zero_le (show 0 ≤ n by omega)
  rw [Int.toNat_natCast] at *
  have hb := begs_line s k (by omega) (by omega)
  obtain ⟨p, hp⟩ := Int.eq_ofNat_of_zero_le (show 0 ≤ (begs s).getD (k - 1) 0 + c - 1 by omega)
  simp only
  rw [hp]
  obtain ⟨h1, h2⟩ := begs_back s k (by omega) (by omega) p (by omega) (by omega) (by omega)
  unfold placeF
  rw [if_neg (by omega), Int.toNat_natCast, h1, h2]
  rw [Prod.mk.injEq, Prod.mk.injEq]
  exact ⟨rfl, by omega, rfl⟩

theorem at_ok (s : ByteArray) (n c : Int) : (atF s n c).2 = 0 ∨ atF s n c = (0, 10) := by
  unfold atF
  repeat' split
  all_goals simp
end Go.Proofs.Ytpncoliiimpgcaa
