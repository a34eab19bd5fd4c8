/- Plain facts on the lines of a text: no program in sight. -/
import GoSem.Core.Utf8
import Derived.Laws.RangeAny
namespace Go.Proofs.Ytpncoliiimpgcaa
open Go

/-- Where lines begin, of those that begin behind a byte 10 ahead of place i; the first at 0. -/
def begsTo (s : ByteArray) : Nat → List Int
  | 0 => [0]
  | i + 1 => if (s.get! i).toNat = 10 then begsTo s i ++ [(i : Int) + 1] else begsTo s i
/-- All begins, and where one line more would begin. -/
def begs (s : ByteArray) : List Int := begsTo s s.size ++ [(s.size : Int) + 1]

theorem begsTo_succ (s : ByteArray) (i : Nat) : begsTo s (i + 1) = if (s.get! i).toNat = 10 then begsTo s i ++ [(i : Int) + 1] else begsTo s i := rfl

theorem begsTo_length_le (s : ByteArray) : ∀ i, 1 ≤ (begsTo s i).length ∧ (begsTo s i).length ≤ i + 1
  | 0 => by simp [begsTo]
  | i + 1 => by
    have := begsTo_length_le s i
    unfold begsTo
    split
    · rw [List.length_append, List.length_singleton]; omega
    · omega

theorem begsTo_skip (s : ByteArray) (i : Nat) : ∀ k, (∀ j, j < k → (s.get! (i + j)).toNat ≠ 10) → begsTo s (i + k) = begsTo s i
  | 0, _ => rfl
  | k + 1, h => by
    rw [← Nat.add_assoc]
    show (if (s.get! (i + k)).toNat = 10 then _ else _) = _
    rw [if_neg (h k (by omega))]
    exact begsTo_skip s i k fun j hj => h j (by omega)

/-- What a range over a string steps over. -/
theorem dec_facts (s : ByteArray) (i : Nat) (h : i < s.size) :
    1 ≤ (Utf8.decode s i).2 ∧ i + (Utf8.decode s i).2 ≤ s.size ∧
    (((s.get! i).toNat = (Utf8.decode s i).1 ∧ (Utf8.decode s i).2 = 1) ∨ (128 ≤ (s.get! i).toNat ∧ 128 ≤ (Utf8.decode s i).1)) ∧ ∀ j, 1 ≤ j → j < (Utf8.decode s i).2 → 128 ≤ (s.get! (i + j)).toNat := by
  have hb : ∀ k, (s.get! (i + k)).toNat < 256 := fun k => (s.get! (i + k)).toNat_lt
  have h0 := hb 0; have h1 := hb 1; have h2 := hb 2; have h3 := hb 3
  simp only [Nat.add_zero] at h0
  simp only [Utf8.decode, Nat.add_zero, Bool.and_eq_true, decide_eq_true_eq, beq_iff_eq, Utf8.runeError]
  repeat' split
  all_goals refine ⟨by omega, by omega, by omega, fun j hj1 hj2 => ?_⟩
  all_goals first
    | omega
    | (have : j = 1 := by omega
       subst this; omega)
    | (have : j = 1 ∨ j = 2 := by omega
       rcases this with rfl | rfl <;> omega)
    | (have : j = 1 ∨ j = 2 ∨ j = 3 := by omega
       rcases this with rfl | rfl | rfl <;> omega)

theorem begsTo_dec (s : ByteArray) (i : Nat) (h : i < s.size) :
    begsTo s (i + (Utf8.decode s i).2) = if (Utf8.decode s i).1 = 10 then begsTo s i ++ [(i : Int) + 1] else begsTo s i := by
  obtain ⟨h1, h2, h3, h4⟩ := dec_facts s i h
  obtain ⟨k, hk⟩ : ∃ k, (Utf8.decode s i).2 = 1 + k := ⟨(Utf8.decode s i).2 - 1, by omega⟩
  rw [hk, ← Nat.add_assoc, begsTo_skip s (i + 1) k (fun j hj => by have := h4 (1 + j) (by omega) (by omega); rw [Nat.add_assoc]; omega)]
  show (if (s.get! i).toNat = 10 then _ else _) = _
  rcases h3 with ⟨e, _⟩ | ⟨e, f⟩
  · rw [e]
  · rw [if_neg (by omega), if_neg (by omega)]

/-- The place of the last begin ahead of i. -/
def lastTo (s : ByteArray) : Nat → Int
  | 0 => 0
  | i + 1 => if (s.get! i).toNat = 10 then (i : Int) + 1 else lastTo s i

theorem begsTo_last (s : ByteArray) : ∀ i, (begsTo s i).getD ((begsTo s i).length - 1) 0 = lastTo s i
  | 0 => rfl
  | i + 1 => by
    unfold begsTo lastTo
    split
    · simp [List.getD_eq_getElem?_getD]
    · exact begsTo_last s i

theorem lastTo_range (s : ByteArray) : ∀ i, 0 ≤ lastTo s i ∧ lastTo s i ≤ i
  | 0 => by simp [lastTo]
  | i + 1 => by
    have := lastTo_range s i
    unfold lastTo
    split <;> omega

theorem begsTo_mem (s : ByteArray) : ∀ i, ∀ x ∈ begsTo s i, 0 ≤ x ∧ x ≤ i
  | 0 => by simp [begsTo]
  | i + 1 => by
    have ih := begsTo_mem s i
    unfold begsTo
    intro x hx
    split at hx
    · rcases List.mem_append.1 hx with h | h
      · have := ih x h; omega
      · simp at h; omega
    · have := ih x hx; omega

/-- What is found later is behind. -/
theorem begsTo_more (s : ByteArray) (i : Nat) : ∀ k, ∃ R, begsTo s (i + k) = begsTo s i ++ R ∧ ∀ x ∈ R, (i : Int) < x ∧ x ≤ i + k
  | 0 => ⟨[], by simp, by simp⟩
  | k + 1 => by
    obtain ⟨R, hR, hm⟩ := begsTo_more s i k
    rw [← Nat.add_assoc, begsTo_succ]
    split
    · refine ⟨R ++ [((i + k : Nat) : Int) + 1], by rw [hR]; simp, fun x hx => ?_⟩
      rcases List.mem_append.1 hx with h | h
      · have := hm x h; omega
      · simp at h; omega
    · exact ⟨R, hR, fun x hx => by have := hm x hx; omega⟩

/-- All begins, parted at a place. -/
theorem begs_parts (s : ByteArray) (i : Nat) (h : i ≤ s.size) : ∃ R, begs s = begsTo s i ++ R ∧ 1 ≤ R.length ∧ ∀ x ∈ R, (i : Int) < x ∧ x ≤ s.size + 1 := by
  obtain ⟨R, hR, hm⟩ := begsTo_more s i (s.size - i)
  rw [show i + (s.size - i) = s.size by omega] at hR
  refine ⟨R ++ [(s.size : Int) + 1], by unfold begs; rw [hR]; simp, by simp, fun x hx => ?_⟩
  rcases List.mem_append.1 hx with h1 | h1
  · have := hm x h1; omega
  · simp at h1; omega

theorem getD_mem {α : Type} (l : List α) (d : α) (i : Nat) (h : i < l.length) : l.getD i d ∈ l := by
  rw [List.getD_eq_getElem?_getD, List.getElem?_eq_getElem h]
  exact List.getElem_mem h

theorem getD_app_left {α : Type} (l r : List α) (d : α) (i : Nat) (h : i < l.length) : (l ++ r).getD i d = l.getD i d := by
  rw [List.getD_eq_getElem?_getD, List.getElem?_append_left h, List.getD_eq_getElem?_getD]
theorem getD_app_right {α : Type} (l r : List α) (d : α) (i : Nat) (h : l.length ≤ i) : (l ++ r).getD i d = r.getD (i - l.length) d := by
  rw [List.getD_eq_getElem?_getD, List.getElem?_append_right h, List.getD_eq_getElem?_getD]

/-- The line of a place, less one: of the begins those up to it. -/
theorem begs_at (s : ByteArray) (i : Nat) (h : i ≤ s.size) :
    1 ≤ (begsTo s i).length ∧ (begsTo s i).length < (begs s).length ∧ (∀ t, t < (begsTo s i).length → ¬ (i : Int) < (begs s).getD t 0) ∧
    (∀ t, (begsTo s i).length ≤ t → t < (begs s).length → (i : Int) < (begs s).getD t 0) ∧ (begs s).getD ((begsTo s i).length - 1) 0 = lastTo s i := by
  obtain ⟨R, hR, h1, hm⟩ := begs_parts s i h
  have hl := begsTo_length_le s i
  refine ⟨hl.1, by rw [hR, List.length_append]; omega, fun t ht => ?_, fun t ht ht2 => ?_, ?_⟩
  · rw [hR, getD_app_left _ _ _ _ ht]
    have := begsTo_mem s i _ (getD_mem (begsTo s i) 0 t ht)
    omega
  · rw [hR, List.length_append] at ht2
    rw [hR, getD_app_right _ _ _ _ ht]
    exact (hm _ (getD_mem R 0 _ (by omega))).1
  · rw [hR, getD_app_left _ _ _ _ (by omega)]
    exact begsTo_last s i

theorem begs_length (s : ByteArray) : (begs s).length = (begsTo s s.size).length + 1 ∧ 2 ≤ (begs s).length ∧ (begs s).length ≤ s.size + 2 := by
  have h := begsTo_length_le s s.size
  unfold begs
  simp
  omega

/-- Begins rise. -/
theorem begsTo_rises (s : ByteArray) : ∀ i, (begsTo s i).Pairwise (· < ·)
  | 0 => by simp [begsTo]
  | i + 1 => by
    unfold begsTo
    split
    · rw [List.pairwise_append]
      refine ⟨begsTo_rises s i, by simp, fun a ha b hb => ?_⟩
      have := begsTo_mem s i a ha
      simp at hb
      omega
    · exact begsTo_rises s i

theorem begs_rises (s : ByteArray) : (begs s).Pairwise (· < ·) := by
  unfold begs
  rw [List.pairwise_append]
  refine ⟨begsTo_rises s _, by simp, fun a ha b hb => ?_⟩
  have := begsTo_mem s _ a ha
  simp at hb
  omega

theorem begs_mem (s : ByteArray) : ∀ x ∈ begs s, 0 ≤ x ∧ x ≤ (s.size : Int) + 1 := by
  intro x hx
  unfold begs at hx
  rcases List.mem_append.1 hx with h | h
  · have := begsTo_mem s _ x h; omega
  · simp at h; omega

theorem begs_lt (s : ByteArray) (i j : Nat) (h : i < j) (hj : j < (begs s).length) : (begs s).getD i 0 < (begs s).getD j 0 := by
  have := List.pairwise_iff_getElem.1 (begs_rises s) i j (by omega) hj h
  simpa [List.getD_eq_getElem?_getD, List.getElem?_eq_getElem hj, List.getElem?_eq_getElem (show i < (begs s).length by omega)] using this

/-- A line's bounds. -/
theorem begs_line (s : ByteArray) (n : Nat) (h0 : 1 ≤ n) (h1 : n < (begs s).length) :
    0 ≤ (begs s).getD (n - 1) 0 ∧ (begs s).getD (n - 1) 0 ≤ (begs s).getD n 0 - 1 ∧ (begs s).getD n 0 - 1 ≤ s.size := by
  have h2 := begs_lt s (n - 1) n (by omega) h1
  have h3 := begs_mem s _ (getD_mem (begs s) 0 (n - 1) (by omega))
  have h4 := begs_mem s _ (getD_mem (begs s) 0 n h1)
  omega

/-- The place at a line and column is in that line. -/
theorem begs_back (s : ByteArray) (n : Nat) (h0 : 1 ≤ n) (h1 : n < (begs s).length) (p : Nat) (hp0 : (begs s).getD (n - 1) 0 ≤ p) (hp1 : (p : Int) < (begs s).getD n 0) (hp2 : p ≤ s.size) :
    (begsTo s p).length = n ∧ lastTo s p = (begs s).getD (n - 1) 0 := by
  obtain ⟨a1, a2, a3, a4, a5⟩ := begs_at s p hp2
  have hn : (begsTo s p).length = n := by
    rcases Nat.lt_trichotomy (begsTo s p).length n with h | h | h
    · have := a4 (n - 1) (by omega) (by omega)
      omega
    · exact h
    · exact absurd hp1 (a3 n h)
  exact ⟨hn, by rw [← a5, hn]⟩

end Go.Proofs.Ytpncoliiimpgcaa
