/- typex, plain: what stands behind a type. -/
import Derived.Test.YtlmggfbpdciioaaDoorTxL
namespace Go.Proofs.YtlmggfbpdciioaaDoor
open Go.RowKit PRef Go.Proofs.YtlmggfbpdciioaaDoorW.PrintWords
set_option linter.unusedVariables false
set_option linter.unusedSimpArgs false

theorem tok_kind {L : List S31} {a : Int} (h : (tokP L a).f0 ≠ 0) : 0 ≤ a ∧ a < L.length := by
  by_cases g : 0 ≤ a ∧ a < L.length
  · exact g
  · exact absurd (by rw [show tokP L a = ⟨0, endP L, endP L, ⟨#[]⟩⟩ from if_neg g]) h
theorem is_kind {t : S31} {c : ByteArray} (h : isP t c = true) : t.f0 = 4 ∧ t.f3 = c := of_decide_eq_true h
/-- What is right or wrong of what is no list. -/
theorem leaf_ends (L : List S31) (a : Int) : ((leafP L a).2.2.2 ≠ 0 → (leafP L a).1 = z38 ∧ (leafP L a).2.1 = 0) ∧ ((leafP L a).2.2.2 = 0 → (leafP L a).2.2.1 = 0 ∧ a < (leafP L a).2.1 ∧ (leafP L a).2.1 ≤ L.length ∧
    ∀ M : List S31, (∀ i, 0 ≤ i → i < (leafP L a).2.1 → tokP M i = tokP L i) → isP (tokP M (leafP L a).2.1) bDot = false → leafP M a = leafP L a) := by
  by_cases h5 : (tokP L a).f0 = 5
  · obtain ⟨g0, g1⟩ := tok_kind (L := L) (a := a) (by omega)
    by_cases e1 : (tokP L a).f3 = bInt
    · have h : ∀ M : List S31, tokP M a = tokP L a → leafP M a = (⟨1, (tokP L a).f1, ⟨#[]⟩, ⟨#[]⟩, []⟩, a + 1, 0, 0) := fun M hM => by unfold leafP; rw [hM, if_pos h5, if_pos e1]
      rw [h L rfl]
      exact ⟨fun h => absurd rfl h, fun _ => ⟨rfl, by simp only; omega, by simp only; omega, fun M hM _ => h M (hM a g0 (by simp only; omega))⟩⟩
    · by_cases e2 : (tokP L a).f3 = bBool
      · have h : ∀ M : List S31, tokP M a = tokP L a → leafP M a = (⟨2, (tokP L a).f1, ⟨#[]⟩, ⟨#[]⟩, []⟩, a + 1, 0, 0) := fun M hM => by unfold leafP; rw [hM, if_pos h5, if_neg e1, if_pos e2]
        rw [h L rfl]
        exact ⟨fun h => absurd rfl h, fun _ => ⟨rfl, by simp only; omega, by simp only; omega, fun M hM _ => h M (hM a g0 (by simp only; omega))⟩⟩
      · by_cases e3 : (tokP L a).f3 = bText
        · have h : ∀ M : List S31, tokP M a = tokP L a → leafP M a = (⟨3, (tokP L a).f1, ⟨#[]⟩, ⟨#[]⟩, []⟩, a + 1, 0, 0) := fun M hM => by unfold leafP; rw [hM, if_pos h5, if_neg e1, if_neg e2, if_pos e3]
          rw [h L rfl]
          exact ⟨fun h => absurd rfl h, fun _ => ⟨rfl, by simp only; omega, by simp only; omega, fun M hM _ => h M (hM a g0 (by simp only; omega))⟩⟩
        · have h : leafP L a = failP (tokP L a) 5 := by unfold leafP; rw [if_pos h5, if_neg e1, if_neg e2, if_neg e3]
          rw [h]
          exact ⟨fun _ => ⟨rfl, rfl⟩, fun h => absurd h (by show ¬ (5 : Int) = 0; decide)⟩
  · by_cases h1 : (tokP L a).f0 = 1
    · obtain ⟨g0, g1⟩ := tok_kind (L := L) (a := a) (by omega)
      cases hd : isP (tokP L (a + 1)) bDot with
      | true =>
        obtain ⟨d0, d1⟩ := tok_kind (L := L) (a := a + 1) (by rw [(is_kind hd).1]; decide)
        by_cases h2 : (tokP L (a + 2)).f0 = 1
        · obtain ⟨k0, k1⟩ := tok_kind (L := L) (a := a + 2) (by omega)
          have h : ∀ M : List S31, tokP M a = tokP L a → tokP M (a + 1) = tokP L (a + 1) → tokP M (a + 2) = tokP L (a + 2) → leafP M a = (⟨4, (tokP L a).f1, (tokP L a).f3, (tokP L (a + 2)).f3, []⟩, a + 3, 0, 0) := fun M e0 e1 e2 => by unfold leafP; rw [e0, e1, e2, if_neg h5, if_pos h1, if_pos hd, if_pos h2]
          rw [h L rfl rfl rfl]
          exact ⟨fun h => absurd rfl h, fun _ => ⟨rfl, by simp only; omega, by simp only; omega, fun M hM _ => h M (hM a g0 (by simp only; omega)) (hM (a + 1) d0 (by simp only; omega)) (hM (a + 2) k0 (by simp only; omega))⟩⟩
        · have h : leafP L a = failP (tokP L (a + 2)) 5 := by unfold leafP; rw [if_neg h5, if_pos h1, if_pos hd, if_neg h2]
          rw [h]
          exact ⟨fun _ => ⟨rfl, rfl⟩, fun h => absurd h (by show ¬ (5 : Int) = 0; decide)⟩
      | false =>
        have h : ∀ M : List S31, tokP M a = tokP L a → isP (tokP M (a + 1)) bDot = false → leafP M a = (⟨4, (tokP L a).f1, ⟨#[]⟩, (tokP L a).f3, []⟩, a + 1, 0, 0) := fun M e0 e1 => by unfold leafP; rw [e0, if_neg h5, if_pos h1, if_neg (by rw [e1]; decide)]
        rw [h L rfl hd]
        exact ⟨fun h => absurd rfl h, fun _ => ⟨rfl, by simp only; omega, by simp only; omega, fun M hM hb => h M (hM a g0 (by simp only; omega)) hb⟩⟩
    · have h : leafP L a = failP (tokP L a) 5 := by unfold leafP; rw [if_neg h5, if_neg h1]
      rw [h]
      exact ⟨fun _ => ⟨rfl, rfl⟩, fun h => absurd h (by show ¬ (5 : Int) = 0; decide)⟩
theorem open_not {L M : List S31} {a n : Int} (ho : isP (tokP L a) bOpen = false) (hM : ∀ i, 0 ≤ i → i < n → tokP M i = tokP L i) (h0 : 0 ≤ a) (hn : a < n) : isP (tokP M a) bOpen = false := by rw [hM a h0 hn]; exact ho
theorem leaf_pos {L : List S31} {a : Int} (h : (leafP L a).2.2.2 = 0) : 0 ≤ a := by
  by_cases h5 : (tokP L a).f0 = 5
  · exact (tok_kind (L := L) (a := a) (by omega)).1
  · by_cases h1 : (tokP L a).f0 = 1
    · exact (tok_kind (L := L) (a := a) (by omega)).1
    · rw [show leafP L a = failP (tokP L a) 5 by unfold leafP; rw [if_neg h5, if_neg h1]] at h
      exact absurd h (by show ¬ (5 : Int) = 0; decide)
theorem deep_ends_leaf (L : List S31) (D : Nat) (A : Int) (ho : isP (tokP L A) bOpen = false) : ((deepP L D A).2.2.2 ≠ 0 → (deepP L D A).1 = z38 ∧ (deepP L D A).2.1 = 0) ∧ ((deepP L D A).2.2.2 = 0 → (deepP L D A).2.2.1 = 0 ∧ 0 ≤ A ∧ A < (deepP L D A).2.1 ∧ (deepP L D A).2.1 ≤ L.length ∧
    ∀ M : List S31, (∀ i, 0 ≤ i → i < (deepP L D A).2.1 → tokP M i = tokP L i) → isP (tokP M (deepP L D A).2.1) bDot = false → deepP M D A = deepP L D A) := by
  rw [deep_leaf_of ho]
  obtain ⟨l1, l2⟩ := leaf_ends L A
  refine ⟨l1, fun h => ?_⟩
  obtain ⟨k1, k2, k3, k4⟩ := l2 h
  have hp := leaf_pos h
  exact ⟨k1, hp, k2, k3, fun M hM hb => by rw [deep_leaf_of (open_not ho hM hp k2)]; exact k4 M hM hb⟩
theorem deep_ends (L : List S31) : ∀ (D : Nat) (A : Int), ((deepP L D A).2.2.2 ≠ 0 → (deepP L D A).1 = z38 ∧ (deepP L D A).2.1 = 0) ∧ ((deepP L D A).2.2.2 = 0 → (deepP L D A).2.2.1 = 0 ∧ 0 ≤ A ∧ A < (deepP L D A).2.1 ∧ (deepP L D A).2.1 ≤ L.length ∧
    ∀ M : List S31, (∀ i, 0 ≤ i → i < (deepP L D A).2.1 → tokP M i = tokP L i) → isP (tokP M (deepP L D A).2.1) bDot = false → deepP M D A = deepP L D A)
  | 0, a => by
    cases ho : isP (tokP L a) bOpen with
    | false => exact deep_ends_leaf L 0 a ho
    | true =>
      rw [deep_zero_of ho]
      exact ⟨fun _ => ⟨rfl, rfl⟩, fun h => absurd h (by show ¬ (6 : Int) = 0; decide)⟩
  | d + 1, a => by
    cases ho : isP (tokP L a) bOpen with
    | false => exact deep_ends_leaf L (d + 1) a ho
    | true =>
      cases hs : isP (tokP L (a + 1)) bShut with
      | false =>
        rw [deep_unshut_of ho hs]
        exact ⟨fun _ => ⟨rfl, rfl⟩, fun h => absurd h (by show ¬ (5 : Int) = 0; decide)⟩
      | true =>
        obtain ⟨l1, l2⟩ := deep_ends L d (a + 2)
        have hw : ∀ M : List S31, tokP M a = tokP L a → tokP M (a + 1) = tokP L (a + 1) → deepP M (d + 1) a = wrapR (tokP L a).f1 (deepP M d (a + 2)) := fun M e0 e1 => by rw [deepP, e0, e1, if_pos ho, if_pos hs]
        rw [hw L rfl rfl]
        by_cases hz : (deepP L d (a + 2)).2.2.2 = 0
        · obtain ⟨k1, k0, k2, k3, k4⟩ := l2 hz
          obtain ⟨g0, g1⟩ := tok_kind (L := L) (a := a) (by rw [(is_kind ho).1]; decide)
          have e : ∀ r : TyR, r.2.2.2 = 0 → wrapR (tokP L a).f1 r = (⟨5, (tokP L a).f1, ⟨#[]⟩, ⟨#[]⟩, [r.1]⟩, r.2.1, 0, 0) := fun r hr => if_pos hr
          rw [e _ hz]
          refine ⟨fun h => absurd rfl h, fun _ => ⟨rfl, g0, by simp only; omega, k3, fun M hM hb => ?_⟩⟩
          simp only at hM hb
          rw [hw M (hM a g0 (by omega)) (hM (a + 1) (by omega) (by omega)), k4 M hM hb, e _ hz]
        · have e : wrapR (tokP L a).f1 (deepP L d (a + 2)) = (z38, 0, (deepP L d (a + 2)).2.2.1, (deepP L d (a + 2)).2.2.2) := if_neg hz
          rw [e]
          exact ⟨fun _ => ⟨rfl, rfl⟩, fun h => absurd h hz⟩
theorem parse_ends (L : List S31) (a : Int) : ((parseP L a).2.2.2 ≠ 0 → (parseP L a).1 = z38 ∧ (parseP L a).2.1 = 0) ∧ ((parseP L a).2.2.2 = 0 → (parseP L a).2.2.1 = 0 ∧ 0 ≤ a ∧ a < (parseP L a).2.1 ∧ (parseP L a).2.1 ≤ L.length ∧
    ∀ M : List S31, (parseP L a).2.1 ≤ M.length → (∀ i, 0 ≤ i → i < (parseP L a).2.1 → tokP M i = tokP L i) → isP (tokP M (parseP L a).2.1) bDot = false → parseP M a = parseP L a) := by
  by_cases h : a < 0 ∨ (L.length : Int) < a
  · rw [show parseP L a = failP (tokP L a) 5 from if_pos h]
    exact ⟨fun _ => ⟨rfl, rfl⟩, fun h => absurd h (by show ¬ (5 : Int) = 0; decide)⟩
  · rw [show parseP L a = deepP L 30 a from if_neg h]
    obtain ⟨k1, k2⟩ := deep_ends L 30 a
    refine ⟨k1, fun hz => ?_⟩
    obtain ⟨m1, m2, m3, m4, m5⟩ := k2 hz
    refine ⟨m1, m2, m3, m4, fun M hM hi hb => ?_⟩
    rw [show parseP M a = deepP M 30 a from if_neg (by omega)]
    exact m5 M hi hb
/-- The tokens of the type, and others behind. -/
theorem tok_cut (L R : List S31) (n : Nat) (hn : n ≤ L.length) (i : Int) (h0 : 0 ≤ i) (h1 : i < n) : tokP (L.take n ++ R) i = tokP L i := by
  unfold tokP
  rw [if_pos ⟨h0, by rw [List.length_append, List.length_take]; omega⟩, if_pos ⟨h0, by omega⟩]
  unfold rd_T31
  rw [List.getD_eq_getElem?_getD, List.getD_eq_getElem?_getD, List.getElem?_append_left (by rw [List.length_take]; omega), List.getElem?_take_of_lt (by omega)]
theorem tok_cut_dot (L R : List S31) (n : Nat) (hn : n ≤ L.length) (hR : ∀ t, R.head? = some t → t.f3 ≠ bDot) : isP (tokP (L.take n ++ R) (n : Int)) bDot = false := by
  unfold isP
  apply decide_eq_false
  rintro ⟨h0, h3⟩
  obtain ⟨g0, g1⟩ := tok_kind (L := L.take n ++ R) (a := (n : Int)) (by rw [h0]; decide)
  rw [List.length_append, List.length_take] at g1
  rcases R with _ | ⟨t, R⟩
  · simp at g1; omega
  · have e : tokP (L.take n ++ t :: R) (n : Int) = t := by
      unfold tokP
      rw [if_pos ⟨g0, by rw [List.length_append, List.length_take]; exact g1⟩]
      unfold rd_T31
      rw [Int.toNat_natCast, List.getD_eq_getElem?_getD, List.getElem?_append_right (by rw [List.length_take]; omega), List.length_take, Nat.min_eq_left hn, Nat.sub_self]
      rfl
    rw [e] at h3
    exact hR t rfl h3
end Go.Proofs.YtlmggfbpdciioaaDoor
