/- lex: the document's answer is the program's: skipping, words, tokens. -/
import Derived.Test.YtlmggfbpdciioaaDoorLxA
import Derived.Test.YtlmggfbpdciioaaDoorPRefx1
import Derived.Test.YtlmggfbpdciioaaDoorPRefx2
import Derived.Test.YtlmggfbpdciioaaDoorPRefx3
namespace Go.Proofs.YtlmggfbpdciioaaDoor
open Go.RowKit PRef Go.Proofs.YtlmggfbpdciioaaDoorW.PrintWords
set_option linter.unusedVariables false

theorem bt_nat (s : ByteArray) (k : Nat) (h : k < s.size) : bt s (k : Int) = (s[k].toNat : Int) := by
  unfold bt
  rw [dif_pos (by simpa using h)]
  rfl
theorem byte_eq_iff (c : UInt8) (n : Nat) (hn : n < 256) : ((c.toNat : Int) = (n : Int)) ↔ c = UInt8.ofNat n := by
  constructor
  · intro h
    apply UInt8.toNat_inj.1
    have : (UInt8.ofNat n).toNat = n := by simp; omega
    omega
  · intro h
    subst h
    have : (UInt8.ofNat n).toNat = n := by simp; omega
    omega
theorem wrap_small {x : Int} (h0 : -9223372036854775808 ≤ x) (h1 : x ≤ 9223372036854775807) : wrap64 x = x := by
  unfold wrap64
  omega
theorem lay_int (c : UInt8) : layB c = true ↔ ((c.toNat : Int) = 32 ∨ (c.toNat : Int) = 9 ∨ (c.toNat : Int) = 10 ∨ (c.toNat : Int) = 13) :=
  all_bytes (fun c => layB c = true ↔ ((c.toNat : Int) = 32 ∨ (c.toNat : Int) = 9 ∨ (c.toNat : Int) = 10 ∨ (c.toNat : Int) = 13)) (by decide +kernel) c

/-- Skip. -/
theorem rskip (s : ByteArray) (hs : s.size ≤ 9223372036854775806) : ∀ (d k i : Nat), i ≤ s.size → s.size - i ≤ d → 4 * d + 4 ≤ k →
    quoinref02_Skip.l0 k s (i : Int) = some ((i + skipN false (s.data.toList.drop i) : Nat) : Int) ∧ quoinref02_Skip.l1 k s (i : Int) = some ((i + skipN true (s.data.toList.drop i) : Nat) : Int) := by
  intro d
  induction d with
  | zero =>
    intro k i hi hd hk
    obtain ⟨k, rfl⟩ : ∃ m, k = m + 1 + 1 := ⟨k - 2, by omega⟩
    have hie : i = s.size := by omega
    subst hie
    rw [drop_end]
    simp only [quoinref02_Skip.l0, quoinref02_Skip.l1]
    rw [if_neg (by omega)]
    simp [skipN]
  | succ d ih =>
    intro k i hi hd hk
    by_cases hlt : i < s.size
    · obtain ⟨k, rfl⟩ : ∃ m, k = m + 1 + 1 + 1 + 1 := ⟨k - 4, by omega⟩
      have hb := bt_nat s i hlt
      have hdr := drop_at s i hlt
      have hw1 : wrap64 ((i : Int) + 1) = ((i + 1 : Nat) : Int) := by rw [wrap_small (by omega) (by omega)]; rfl
      have ih1 := fun k hk => ih k (i + 1) (by omega) (by omega) hk
      have hlay := lay_int s[i]
      have h10 : ((s[i].toNat : Int) = 10) ↔ s[i] = 10 := byte_eq_iff s[i] 10 (by omega)
      have h47 : ((s[i].toNat : Int) = 47) ↔ s[i] = 47 := byte_eq_iff s[i] 47 (by omega)
      have hnext : i + 1 < s.size → ((s.data.toList.drop (i + 1)).head? = some 47 ↔ bt s ((i + 1 : Nat) : Int) = 47) := by
        intro hl
        rw [bt_nat s (i + 1) hl, drop_at s (i + 1) hl, List.head?_cons, Option.some.injEq]
        exact (byte_eq_iff s[i + 1] 47 (by omega)).symm
      generalize s[i] = c at *
      refine ⟨?_, ?_⟩
      · rw [quoinref02_Skip.l0, if_pos (by omega), if_pos (by omega), hb]
        by_cases hl : layB c = true
        · have hj : quoinref02_Skip.j1 (k + 1 + 1 + 1) s (i : Int) true = some ((i + skipN false (s.data.toList.drop i) : Nat) : Int) := by
            rw [quoinref02_Skip.j1, if_pos rfl, hw1, (ih1 _ (by omega)).1, hdr, skipN, if_pos hl]
            congr 1; omega
          have := hlay.1 hl
          by_cases e1 : (c.toNat : Int) = 32
          · rw [if_pos e1]; exact hj
          · rw [if_neg e1]
            by_cases e2 : (c.toNat : Int) = 9
            · rw [if_pos e2]; exact hj
            · rw [if_neg e2]
              by_cases e3 : (c.toNat : Int) = 10
              · rw [if_pos e3]; exact hj
              · rw [if_neg e3]
                have e4 : (c.toNat : Int) = 13 := by omega
                rw [e4]; exact hj
        · have hn : ¬ ((c.toNat : Int) = 32 ∨ (c.toNat : Int) = 9 ∨ (c.toNat : Int) = 10 ∨ (c.toNat : Int) = 13) := fun h => hl (hlay.2 h)
          rw [if_neg (by omega), if_neg (by omega), if_neg (by omega)]
          have e4 : ((c.toNat : Int) == 13) = false := by simp; omega
          rw [e4, quoinref02_Skip.j1, if_neg (by simp), if_pos (by omega), if_pos (by omega), hb, hdr, skipN, if_neg hl, hw1]
          by_cases e47 : c = 47
          · rw [if_pos (h47.2 e47)]
            by_cases hend : i + 1 < s.size
            · rw [if_neg (by omega), if_pos (by omega), if_pos (by omega)]
              by_cases h2 : bt s ((i + 1 : Nat) : Int) = 47
              · rw [show (bt s ((i + 1 : Nat) : Int) != 47) = false by simpa using h2, quoinref02_Skip.j2, if_neg (by simp), quoinref02_Skip.l1, if_pos (by omega), if_pos (by omega), hb, if_neg (by rw [e47]; decide), hw1, (ih1 _ (by omega)).2,
                  if_pos ⟨e47, (hnext hend).2 h2⟩]
                congr 1; omega
              · rw [show (bt s ((i + 1 : Nat) : Int) != 47) = true by simpa using h2, quoinref02_Skip.j2, if_pos rfl, if_neg (fun h => h2 ((hnext hend).1 h.2))]
                simp
            · rw [if_pos (by omega), quoinref02_Skip.j2, if_pos rfl, if_neg]
              · simp
              · intro h
                rw [show i + 1 = s.size by omega, drop_end] at h
                simp at h
          · rw [if_neg (fun h => e47 (h47.1 h)), quoinref02_Skip.j2, if_pos rfl, if_neg (fun h => e47 h.1)]
            simp
      · rw [quoinref02_Skip.l1, if_pos (by omega), if_pos (by omega), hb]
        by_cases e10 : c = 10
        · rw [if_pos (h10.2 e10), quoinref02_Skip.l0, if_pos (by omega), if_pos (by omega), hb, if_neg (by rw [e10]; decide), if_neg (by rw [e10]; decide), if_pos (h10.2 e10), quoinref02_Skip.j1, if_pos rfl, hw1, (ih1 _ (by omega)).1, hdr, skipN, if_pos e10]
          congr 1; omega
        · rw [if_neg (fun h => e10 (h10.1 h)), hw1, (ih1 _ (by omega)).2, hdr]
          conv => rhs; rw [skipN, if_neg e10]
          congr 1; omega
    · have hie : i = s.size := by omega
      subst hie
      obtain ⟨k, rfl⟩ : ∃ m, k = m + 1 + 1 := ⟨k - 2, by omega⟩
      rw [drop_end]
      simp only [quoinref02_Skip.l0, quoinref02_Skip.l1]
      rw [if_neg (by omega)]
      simp [skipN]

theorem rskip_f (s : ByteArray) (hs : s.size ≤ 9223372036854775806) (k i : Nat) (hi : i ≤ s.size) (hk : 4 * s.size + 4 ≤ k) : quoinref02_Skip.f k s (i : Int) = some ((i + skipN false (s.data.toList.drop i) : Nat) : Int) := by
  unfold quoinref02_Skip.f
  exact (rskip s hs s.size k i hi (by omega) hk).1

/-- Word. -/
theorem rword_l (s : ByteArray) (L : List ByteArray) (hL : L.length ≤ 1000) : ∀ (d k i : Nat), i ≤ L.length → L.length - i = d → d + 1 ≤ k → quoinref02_Word.l0 k s L (i : Int) = some ((L.drop i).any fun x => x.toList = s.toList) := by
  intro d
  induction d with
  | zero =>
    intro k i hi hd hk
    obtain ⟨k, rfl⟩ : ∃ m, k = m + 1 := ⟨k - 1, by omega⟩
    rw [quoinref02_Word.l0, if_neg (by omega), List.drop_eq_nil_of_le (by omega)]
    rfl
  | succ d ih =>
    intro k i hi hd hk
    obtain ⟨k, rfl⟩ : ∃ m, k = m + 1 := ⟨k - 1, by omega⟩
    have hlt : i < L.length := by omega
    rw [quoinref02_Word.l0, if_pos (by omega), if_pos (by omega), List.drop_eq_getElem_cons hlt, List.any_cons]
    have hr : rdOf ByteArray.empty L (i : Int) = L[i] := by unfold rdOf; simp [hlt]
    rw [hr]
    by_cases h : L[i].toList = s.toList
    · rw [if_pos h]; simp [h]
    · rw [if_neg h, show wrap64 ((i : Int) + 1) = ((i + 1 : Nat) : Int) by rw [wrap_small (by omega) (by omega)]; rfl, ih k (i + 1) (by omega) (by omega) (by omega)]
      simp [h]
theorem rword (s : ByteArray) (k : Nat) (hk : 20 ≤ k) : quoinref02_Word.f k s = some (wordB s.data.toList) := by
  unfold quoinref02_Word.f
  rw [show (0 : Int) = ((0 : Nat) : Int) from rfl, rword_l s _ (by decide) 17 k 0 (by decide) (by decide) (by omega)]
  congr 1
  rw [Bool.eq_iff_iff]
  unfold wordB wordsL
  simp only [List.drop_zero, List.any_cons, List.any_nil, Bool.or_false, Bool.or_eq_true, decide_eq_true_eq, ByteArray.toList_eq, List.contains_cons, List.contains_nil, beq_iff_eq]
  simp only [eq_comm]

theorem letter_int (c : UInt8) : quoinref02_Letter.f (c.toNat : Int) = some (letterB c) :=
  all_bytes (fun c => quoinref02_Letter.f (c.toNat : Int) = some (letterB c)) (by decide +kernel) c
theorem digit_int (c : UInt8) : quoinref02_Digit.f (c.toNat : Int) = some (digitB c) :=
  all_bytes (fun c => quoinref02_Digit.f (c.toNat : Int) = some (digitB c)) (by decide +kernel) c
def symsB : ByteArray := ⟨#[40, 41, 123, 125, 91, 93, 44, 59, 46, 61, 60, 43, 45, 42, 33]⟩
theorem in_mono (k : Nat) (hk : 16 ≤ k) (x : Int) (r : Bool) (h : quoinref02_in.f 16 x symsB = some r) : quoinref02_in.f k x symsB = some r := by
  obtain ⟨d, rfl⟩ : ∃ d, k = 16 + d := ⟨k - 16, by omega⟩
  induction d with
  | zero => exact h
  | succ d ih => exact quoinref02_in.mono _ _ _ _ (ih (by omega))
theorem in_int16 (c : UInt8) : quoinref02_in.f 16 (c.toNat : Int) symsB = some (decide (c ∈ symsL)) :=
  all_bytes (fun c => quoinref02_in.f 16 (c.toNat : Int) symsB = some (decide (c ∈ symsL))) (by decide +kernel) c
theorem in_int (c : UInt8) (k : Nat) (hk : 16 ≤ k) : quoinref02_in.f k (c.toNat : Int) symsB = some (decide (c ∈ symsL)) := in_mono k hk _ _ (in_int16 c)

/-- A name's end. -/
theorem rname (s : ByteArray) (hs : s.size ≤ 9223372036854775806) : ∀ (d k i : Nat), i ≤ s.size → s.size - i ≤ d → d + 1 ≤ k → quoinref02_name.l0 k s (i : Int) = some ((i + wh partB (s.data.toList.drop i) : Nat) : Int) := by
  intro d
  induction d with
  | zero =>
    intro k i hi hd hk
    obtain ⟨k, rfl⟩ : ∃ m, k = m + 1 := ⟨k - 1, by omega⟩
    have hie : i = s.size := by omega
    subst hie
    rw [drop_end, quoinref02_name.l0, if_neg (by omega)]
    rfl
  | succ d ih =>
    intro k i hi hd hk
    obtain ⟨k, rfl⟩ : ∃ m, k = m + 1 := ⟨k - 1, by omega⟩
    by_cases hlt : i < s.size
    · have hw1 : wrap64 ((i : Int) + 1) = ((i + 1 : Nat) : Int) := by rw [wrap_small (by omega) (by omega)]; rfl
      rw [quoinref02_name.l0, if_pos (by omega), if_pos (by omega), bt_nat s i hlt, letter_int, digit_int, hw1, ih k (i + 1) (by omega) (by omega) (by omega), drop_at s i hlt, wh_cons]
      unfold partB
      simp only [Option.bind_some]
      cases letterB s[i] <;> cases digitB s[i] <;> simp <;> omega
    · have hie : i = s.size := by omega
      subst hie
      rw [drop_end, quoinref02_name.l0, if_neg (by omega)]
      rfl
theorem rnumber (s : ByteArray) (hs : s.size ≤ 9223372036854775806) : ∀ (d k i : Nat), i ≤ s.size → s.size - i ≤ d → d + 1 ≤ k → quoinref02_number.l0 k s (i : Int) = some ((i + wh digitB (s.data.toList.drop i) : Nat) : Int) := by
  intro d
  induction d with
  | zero =>
    intro k i hi hd hk
    obtain ⟨k, rfl⟩ : ∃ m, k = m + 1 := ⟨k - 1, by omega⟩
    have hie : i = s.size := by omega
    subst hie
    rw [drop_end, quoinref02_number.l0, if_neg (by omega)]
    rfl
  | succ d ih =>
    intro k i hi hd hk
    obtain ⟨k, rfl⟩ : ∃ m, k = m + 1 := ⟨k - 1, by omega⟩
    by_cases hlt : i < s.size
    · have hw1 : wrap64 ((i : Int) + 1) = ((i + 1 : Nat) : Int) := by rw [wrap_small (by omega) (by omega)]; rfl
      rw [quoinref02_number.l0, if_pos (by omega), if_pos (by omega), bt_nat s i hlt, digit_int, hw1, ih k (i + 1) (by omega) (by omega) (by omega), drop_at s i hlt, wh_cons]
      simp only [Option.bind_some]
      cases digitB s[i] <;> simp <;> omega
    · have hie : i = s.size := by omega
      subst hie
      rw [drop_end, quoinref02_number.l0, if_neg (by omega)]
      rfl
theorem quote_int (c : UInt8) : quoteB c = true ↔ (¬ (c.toNat : Int) = 34 ∧ ¬ (c.toNat : Int) < 32 ∧ ¬ (c.toNat : Int) > 126) :=
  all_bytes (fun c => quoteB c = true ↔ (¬ (c.toNat : Int) = 34 ∧ ¬ (c.toNat : Int) < 32 ∧ ¬ (c.toNat : Int) > 126)) (by decide +kernel) c
/-- A text's end. -/
theorem rquoted (s : ByteArray) (hs : s.size ≤ 9223372036854775806) (a : Nat) : ∀ (d k i : Nat), a < i → i ≤ s.size → s.size - i ≤ d → d + 1 ≤ k → quoinref02_quoted.l0 k s (a : Int) (i : Int) =
    some (if ((s.data.toList.drop i).drop (wh quoteB (s.data.toList.drop i))).head? = some 34 ∧ i + wh quoteB (s.data.toList.drop i) - a - 1 ≤ 200 then ((i + wh quoteB (s.data.toList.drop i) + 1 : Nat) : Int) else -1) := by
  intro d
  induction d with
  | zero =>
    intro k i ha hi hd hk
    obtain ⟨k, rfl⟩ : ∃ m, k = m + 1 := ⟨k - 1, by omega⟩
    have hie : i = s.size := by omega
    subst hie
    rw [drop_end, quoinref02_quoted.l0, if_neg (by omega), if_neg (by simp)]
  | succ d ih =>
    intro k i ha hi hd hk
    obtain ⟨k, rfl⟩ : ∃ m, k = m + 1 := ⟨k - 1, by omega⟩
    by_cases hlt : i < s.size
    · have hw1 : wrap64 ((i : Int) + 1) = ((i + 1 : Nat) : Int) := by rw [wrap_small (by omega) (by omega)]; rfl
      have hw2 : wrap64 (wrap64 ((i : Int) - (a : Int)) - 1) = (i : Int) - (a : Int) - 1 := by rw [wrap_small (x := (i : Int) - (a : Int)) (by omega) (by omega), wrap_small (by omega) (by omega)]
      rw [quoinref02_quoted.l0, if_pos (by omega), if_pos (by omega), bt_nat s i hlt, hw1, hw2, ih k (i + 1) (by omega) (by omega) (by omega) (by omega), drop_at s i hlt, wh_cons]
      have hq := quote_int s[i]
      have h34 : ((s[i].toNat : Int) = 34) ↔ s[i] = 34 := byte_eq_iff s[i] 34 (by omega)
      generalize s[i] = c at *
      by_cases e : (c.toNat : Int) = 34
      · rw [if_pos e, if_neg (fun h => (hq.1 h).1 e), List.drop_zero, h34.1 e, List.head?_cons]
        simp only [Nat.add_zero, true_and]
        by_cases h2 : i - a - 1 ≤ 200
        · rw [if_neg (by omega), if_pos h2]
        · rw [if_pos (by omega), if_neg h2]
      · rw [if_neg e]
        by_cases e2 : (c.toNat : Int) < 32
        · rw [if_pos e2, if_neg (fun h => (hq.1 h).2.1 e2), List.drop_zero, List.head?_cons, if_neg]
          rintro ⟨h, _⟩
          injection h with h
          exact e (h34.2 h)
        · rw [if_neg e2]
          by_cases e3 : (c.toNat : Int) > 126
          · rw [if_pos e3, if_neg (fun h => (hq.1 h).2.2 e3), List.drop_zero, List.head?_cons, if_neg]
            rintro ⟨h, _⟩
            injection h with h
            exact e (h34.2 h)
          · rw [if_neg e3, if_pos (hq.2 ⟨e, e2, e3⟩), List.drop_succ_cons]
            have e1 : i + 1 + wh quoteB (s.data.toList.drop (i + 1)) = i + (wh quoteB (s.data.toList.drop (i + 1)) + 1) := by omega
            rw [e1]
    · have hie : i = s.size := by omega
      subst hie
      rw [drop_end, quoinref02_quoted.l0, if_neg (by omega), if_neg (by simp)]
end Go.Proofs.YtlmggfbpdciioaaDoor
