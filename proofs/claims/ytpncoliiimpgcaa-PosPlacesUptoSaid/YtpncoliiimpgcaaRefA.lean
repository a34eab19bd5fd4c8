/- The document's answers for lines, as plain functions of the text. -/
import Derived.Test.YtpncoliiimpgcaaWalkG
import Derived.Test.YtpncoliiimpgcaaPPosPlacesx1
import Derived.Test.YtpncoliiimpgcaaPPosFindsx1
namespace Go.Proofs.Ytpncoliiimpgcaa
open Go.RowKit Go.Proofs.YtpncoliiimpgcaaW.PrintWords
set_option linter.unusedVariables false

theorem bt_get (s : ByteArray) (i : Nat) (h : i < s.size) : bt s i = ((s.get! i).toNat : Int) := by
  unfold bt
  rw [getb s i h]
  simp [h]

theorem wrap_small {i : Int} (h0 : -1152921504606846976 ≤ i) (h1 : i ≤ 1152921504606846976) : wrap64 i = i := by unfold wrap64; omega

theorem refPlace_loop (s : ByteArray) (n : Nat) (hs : s.size ≤ 1048576) (hn : n ≤ s.size) (d : Nat) : ∀ (k i : Nat), i ≤ n → n - i = d → d < k →
    PPosPlaces.quoinref01_Place.l0 k s n ((begsTo s i).length : Int) ((i : Int) - lastTo s i + 1) i = some (((begsTo s n).length : Int), n - lastTo s n + 1, 0) := by
  induction d with
  | zero =>
    intro k i hi hd hk
    obtain ⟨k, rfl⟩ : ∃ m, k = m + 1 := ⟨k - 1, by omega⟩
    obtain rfl : i = n := by omega
    simp only [PPosPlaces.quoinref01_Place.l0]
    rw [if_neg (by omega)]
  | succ d ih =>
    intro k i hi hd hk
    obtain ⟨k, rfl⟩ : ∃ m, k = m + 1 := ⟨k - 1, by omega⟩
    have h1 := begsTo_length_le s i
    have h2 := lastTo_range s i
    have h3 := ih k (i + 1) (by omega) (by omega) (by omega)
    simp only [PPosPlaces.quoinref01_Place.l0]
    rw [if_pos (by omega), if_pos (by omega), if_pos (by omega), bt_get s i (by omega)]
    rw [wrap_small (by omega) (by omega), wrap_small (by omega) (by omega), wrap_small (by omega) (by omega)]
    rw [begsTo_succ] at h3
    simp only [lastTo] at h3
    by_cases h10 : (s.get! i).toNat = 10
    · rw [if_pos (by omega)]
      rw [if_pos h10, if_pos h10, List.length_append, List.length_singleton] at h3
      rw [← h3]
      congr 1 <;> omega
    · rw [if_neg (by omega)]
      rw [if_neg h10, if_neg h10] at h3
      rw [← h3]
      congr 1
      omega

theorem refPlace (s : ByteArray) (hs : s.size ≤ 1048576) (n : Int) : ∃ k, PPosPlaces.quoinref01_Place.f k s n = some (placeF s n) := by
  unfold placeF
  split
  · rename_i h
    refine ⟨1, ?_⟩
    unfold PPosPlaces.quoinref01_Place.f
    by_cases h1 : n < 0
    · rw [if_pos h1]; rfl
    · rw [if_neg h1, decide_eq_true (by omega)]; rfl
  · rename_i h
    obtain ⟨i, rfl⟩ := Int.eq_ofNat_of_zero_le (show 0 ≤ n by omega)
    refine ⟨i + 2, ?_⟩
    unfold PPosPlaces.quoinref01_Place.f
    rw [if_neg (by omega), decide_eq_false (by omega)]
    simp only [PPosPlaces.quoinref01_Place.j0]
    have := refPlace_loop s i hs (by omega) i (i + 1) 0 (by omega) (by omega) (by omega)
    simpa [begsTo, lastTo] using this

/-- The lines that end ahead of place i. -/
def linesTo (s : ByteArray) : Nat → List ByteArray
  | 0 => []
  | i + 1 => if (s.get! i).toNat = 10 then linesTo s i ++ [s.extract (lastTo s i).toNat i] else linesTo s i
def linesF (s : ByteArray) : List ByteArray := linesTo s s.size ++ [s.extract (lastTo s s.size).toNat s.size]

theorem linesTo_length (s : ByteArray) : ∀ i, (linesTo s i).length + 1 = (begsTo s i).length
  | 0 => rfl
  | i + 1 => by
    have := linesTo_length s i
    rw [begsTo_succ]
    simp only [linesTo]
    split
    · simp; omega
    · exact this

theorem linesF_length (s : ByteArray) : (linesF s).length + 1 = (begs s).length := by
  have := linesTo_length s s.size
  unfold linesF begs
  simp
  omega

theorem linesTo_at (s : ByteArray) : ∀ i t, t < (linesTo s i).length →
    (linesTo s i).getD t ByteArray.empty = s.extract ((begsTo s i).getD t 0).toNat ((begsTo s i).getD (t + 1) 0 - 1).toNat
  | 0, t, ht => by simp [linesTo] at ht
  | i + 1, t, ht => by
    have hl := linesTo_length s i
    have ih := linesTo_at s i t
    rw [begsTo_succ]
    simp only [linesTo] at ht ⊢
    split
    · rename_i h10
      rw [if_pos h10] at ht
      simp at ht
      by_cases h : t < (linesTo s i).length
      · rw [getD_app_left _ _ _ _ h, ih h, getD_app_left _ _ _ _ (by omega), getD_app_left _ _ _ _ (by omega)]
      · obtain rfl : t = (linesTo s i).length := by omega
        have hL := begsTo_last s i
        rw [getD_app_right _ _ _ _ (Nat.le_refl _), getD_app_left _ _ _ _ (by omega), getD_app_right _ _ _ _ (by omega)]
        rw [show (begsTo s i).length - 1 = (linesTo s i).length by omega] at hL
        rw [hL]
        simp [show (linesTo s i).length + 1 - (begsTo s i).length = 0 by omega]
    · rename_i h10
      rw [if_neg h10] at ht
      exact ih ht

theorem linesF_at (s : ByteArray) (t : Nat) (ht : t < (linesF s).length) :
    (linesF s).getD t ByteArray.empty = s.extract ((begs s).getD t 0).toNat ((begs s).getD (t + 1) 0 - 1).toNat := by
  have hl := linesTo_length s s.size
  have hL := begsTo_last s s.size
  unfold linesF begs at *
  simp at ht
  by_cases h : t < (linesTo s s.size).length
  · rw [getD_app_left _ _ _ _ h, linesTo_at s _ t h, getD_app_left _ _ _ _ (by omega), getD_app_left _ _ _ _ (by omega)]
  · obtain rfl : t = (linesTo s s.size).length := by omega
    rw [getD_app_right _ _ _ _ (Nat.le_refl _), getD_app_left _ _ _ _ (by omega), getD_app_right _ _ _ _ (by omega)]
    rw [show (begsTo s s.size).length - 1 = (linesTo s s.size).length by omega] at hL
    rw [hL]
    simp [show (linesTo s s.size).length + 1 - (begsTo s s.size).length = 0 by omega]

theorem refLines_loop (s : ByteArray) (hs : s.size ≤ 1048576) (d : Nat) : ∀ (k i : Nat), i ≤ s.size → s.size - i = d → d + 1 < k →
    PPosFinds.quoinref01_Lines.l0 k s (linesTo s i) (lastTo s i) i = some (linesF s) := by
  induction d with
  | zero =>
    intro k i hi hd hk
    obtain ⟨k, rfl⟩ : ∃ m, k = m + 1 := ⟨k - 1, by omega⟩
    obtain rfl : i = s.size := by omega
    have h2 := lastTo_range s s.size
    have h3 := linesTo_length s s.size
    have h4 := begsTo_length_le s s.size
    simp only [PPosFinds.quoinref01_Lines.l0]
    rw [if_pos (by omega), if_pos trivial, if_pos (by omega), if_pos (by omega), if_pos (by omega)]
    obtain ⟨k, rfl⟩ : ∃ m, k = m + 1 := ⟨k - 1, by omega⟩
    simp only [PPosFinds.quoinref01_Lines.l0]
    rw [wrap_small (by omega) (by omega), if_neg (by omega)]
    unfold linesF
    simp
  | succ d ih =>
    intro k i hi hd hk
    obtain ⟨k, rfl⟩ : ∃ m, k = m + 1 := ⟨k - 1, by omega⟩
    have h2 := lastTo_range s i
    have h3 := ih k (i + 1) (by omega) (by omega) (by omega)
    have h5 := linesTo_length s i
    have h4 := begsTo_length_le s i
    simp only [PPosFinds.quoinref01_Lines.l0]
    rw [if_pos (by omega), if_neg (by omega), if_pos (by omega), if_pos (by omega), bt_get s i (by omega)]
    rw [wrap_small (by omega) (by omega)]
    simp only [linesTo, lastTo] at h3
    by_cases h10 : (s.get! i).toNat = 10
    · rw [if_pos (by omega), if_pos (by omega), if_pos (by omega), if_pos (by omega)]
      rw [if_pos h10, if_pos h10] at h3
      rw [← h3]
      simp
    · rw [if_neg (by omega)]
      rw [if_neg h10, if_neg h10] at h3
      rw [← h3]
      simp

theorem refLines (s : ByteArray) (hs : s.size ≤ 1048576) : PPosFinds.quoinref01_Lines.f (s.size + 2) s = some (linesF s) := by
  unfold PPosFinds.quoinref01_Lines.f
  exact refLines_loop s hs s.size (s.size + 2) 0 (by omega) (by omega) (by omega)

theorem refLine (s : ByteArray) (hs : s.size ≤ 1048576) (n : Int) (hn : (Lit.int .i64 n).wf = true) : ∃ k, PPosFinds.quoinref01_Line.f k s n = some (lineF s n) := by
  have hb := bounds_i64 hn
  have hl := linesF_length s
  have hl2 := begs_length s
  refine ⟨s.size + 2, ?_⟩
  unfold PPosFinds.quoinref01_Line.f
  rw [refLines s hs]
  simp only [Option.bind_some]
  unfold lineF
  by_cases h1 : n < 1
  · rw [if_pos h1, if_pos (.inl h1)]; rfl
  · by_cases h2 : n > ((linesF s).length : Int)
    · rw [if_neg h1, if_pos h2, if_pos (.inr (by omega))]; rfl
    · have hw : wrap64 (n - 1) = n - 1 := wrap_small (by omega) (by omega)
      rw [if_neg (show ¬ (n < 1 ∨ ((begs s).length : Int) - 1 < n) by omega), if_neg h1, if_neg h2, hw, if_pos (show 0 ≤ n - 1 by omega), if_pos (show n - 1 < ((linesF s).length : Int) by omega)]
      have h3 := linesF_at s (n.toNat - 1) (by omega)
      rw [show n.toNat - 1 + 1 = n.toNat by omega] at h3
      rw [← h3]
      unfold rdOf
      rw [show (n - 1).toNat = n.toNat - 1 by omega]

theorem refAt_loop (s : ByteArray) (hs : s.size ≤ 1048576) (n : Nat) (c : Int) (hc : 0 ≤ c ∧ c ≤ 1048577) (h0 : 1 ≤ n) (h1 : n < (begs s).length) (d : Nat) : ∀ (k i : Nat), i ≤ n - 1 → n - 1 - i = d → d < k →
    PPosFinds.quoinref01_At.l0 k n c (linesF s) ((begs s).getD i 0) i = some ((begs s).getD (n - 1) 0 + c - 1, 0) := by
  have hl := linesF_length s
  have hl2 := begs_length s
  induction d with
  | zero =>
    intro k i hi hd hk
    obtain ⟨k, rfl⟩ : ∃ m, k = m + 1 := ⟨k - 1, by omega⟩
    obtain rfl : i = n - 1 := by omega
    have hm := begs_mem s _ (getD_mem (begs s) 0 (n - 1) (by omega))
    simp only [PPosFinds.quoinref01_At.l0]
    rw [wrap_small (i := (n : Int) - 1) (by omega) (by omega), if_neg (by omega), wrap_small (i := (begs s).getD (n - 1) 0 + c) (by omega) (by omega), wrap_small (by omega) (by omega)]
  | succ d ih =>
    intro k i hi hd hk
    obtain ⟨k, rfl⟩ : ∃ m, k = m + 1 := ⟨k - 1, by omega⟩
    have h3 := ih k (i + 1) (by omega) (by omega) (by omega)
    have hm := begs_line s (i + 1) (by omega) (by omega)
    rw [Nat.add_sub_cancel] at hm
    have h4 : (rdOf ByteArray.empty (linesF s) (i : Int)).size = ((begs s).getD (i + 1) 0 - 1 - (begs s).getD i 0) := by
      unfold rdOf
      rw [Int.toNat_natCast, linesF_at s i (by omega), ByteArray.size_extract]
      omega
    simp only [PPosFinds.quoinref01_At.l0]
    rw [wrap_small (i := (n : Int) - 1) (by omega) (by omega), if_pos (by omega), if_pos (by omega), if_pos (by omega), h4]
    rw [wrap_small (i := (begs s).getD i 0 + _) (by omega) (by omega), wrap_small (by omega) (by omega), wrap_small (by omega) (by omega)]
    rw [← h3]
    congr 1
    omega

theorem refAt (s : ByteArray) (hs : s.size ≤ 1048576) (n c : Int) (hn : (Lit.int .i64 n).wf = true) (hc : (Lit.int .i64 c).wf = true) : ∃ k, PPosFinds.quoinref01_At.f k s n c = some (atF s n c) := by
  have hb := bounds_i64 hn
  have hcb := bounds_i64 hc
  have hl := linesF_length s
  have hl2 := begs_length s
  unfold atF
  by_cases h1 : n < 1
  · refine ⟨s.size + 2, ?_⟩
    unfold PPosFinds.quoinref01_At.f
    rw [refLines s hs]
    simp only [Option.bind_some]
    rw [if_pos h1, if_pos (.inl h1)]
    rfl
  · by_cases h2 : n > ((linesF s).length : Int)
    · refine ⟨s.size + 2, ?_⟩
      unfold PPosFinds.quoinref01_At.f
      rw [refLines s hs]
      simp only [Option.bind_some]
      rw [if_neg h1, if_pos h2, if_pos (.inr (by omega))]
      rfl
    · obtain ⟨i, rfl⟩ := Int.eq_ofNat_of_zero_le (show 0 ≤ n by omega)
      have hm := begs_line s i (by omega) (by omega)
      have h4 : (rdOf ByteArray.empty (linesF s) ((i : Int) - 1)).size = ((begs s).getD i 0 - 1 - (begs s).getD (i - 1) 0) := by
        unfold rdOf
        rw [show ((i : Int) - 1).toNat = i - 1 by omega, linesF_at s (i - 1) (by omega), ByteArray.size_extract, show i - 1 + 1 = i by omega]
        omega
      refine ⟨s.size + 2, ?_⟩
      unfold PPosFinds.quoinref01_At.f
      rw [refLines s hs]
      simp only [Option.bind_some]
      rw [if_neg h1, if_neg h2, if_neg (show ¬ ((i : Int) < 1 ∨ ((begs s).length : Int) - 1 < i) by omega)]
      rw [Int.toNat_natCast]
      by_cases h5 : c < 1
      · rw [if_pos h5, if_pos (.inl h5)]
        rfl
      · rw [if_neg h5, wrap_small (i := (i : Int) - 1) (by omega) (by omega), if_pos (by omega), if_pos (by omega), h4]
        rw [show wrap64 (c - 1) = c - 1 by unfold wrap64; omega]
        by_cases h6 : (begs s).getD i 0 - 1 - (begs s).getD (i - 1) 0 < c - 1
        · rw [decide_eq_true h6, if_pos (.inr h6)]
          rfl
        · rw [decide_eq_false h6, if_neg (by omega)]
          simp only [PPosFinds.quoinref01_At.j0]
          have := refAt_loop s hs i c (by omega) (by omega) (by omega) (i - 1) (s.size + 1) 0 (by omega) (by omega) (by omega)
          obtain ⟨R, hR, _⟩ := begs_parts s 0 (by omega)
          have e0 : (begs s).getD 0 0 = 0 := by rw [hR]; rfl
          rw [e0] at this
          simpa using this
end Go.Proofs.Ytpncoliiimpgcaa
