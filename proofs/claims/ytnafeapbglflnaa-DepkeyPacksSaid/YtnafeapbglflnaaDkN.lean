/- few, SameDeps, Same: what they answer; Key and Pack whole; awake. -/
import Derived.Test.YtnafeapbglflnaaDkM
import Derived.Test.YtnafeapbglflnaaDkI
namespace Go.Proofs.Ytnafeapbglflnaa
open Go.RowKit PRef Go.Proofs.YtnafeapbglflnaaW.PrintWords
set_option linter.unusedVariables false

theorem few_loop (l : List S43) (hl : l.length ≤ 9223372036854775807) : ∀ (n j : Nat), l.length - j = n → j ≤ l.length → ∃ k r, quoinlaw17_few.l0 k l j = some r ∧ (r = true → ∀ i, j ≤ i → i < l.length → i < 200 → smallDep (l.getD i z43))
  | 0, j, hn, hj => by
    refine ⟨2, true, ?_, fun _ i h1 h2 => by omega⟩
    rw [quoinlaw17_few.l0, if_neg (by omega), quoinlaw17_few.j2, if_neg (by simp)]
  | n + 1, j, hn, hj => by
    by_cases h200 : j < 200
    · by_cases h0 : (l.getD j z43).f0.size ≤ 1000
      · by_cases h2 : (l.getD j z43).f2.size ≤ 10000
        · obtain ⟨k, r, e, hr⟩ := few_loop l hl n (j + 1) (by omega) (by omega)
          refine ⟨k + 2, r, ?_, fun h i h1 h3 h4 => ?_⟩
          · rw [quoinlaw17_few.l0, if_pos (by omega), quoinlaw17_few.j2, if_pos (decide_eq_true (by omega)), if_pos (by omega), if_pos (by omega)]
            unfold rd_T43
            rw [Int.toNat_natCast, if_neg (by omega), if_neg (by omega), w64 _ (by omega)]
            exact e
          · rcases Nat.eq_or_lt_of_le h1 with rfl | h1
            · exact ⟨h0, h2⟩
            · exact hr h i h1 h3 h4
        · refine ⟨2, false, ?_, (fun h => by cases h)⟩
          rw [quoinlaw17_few.l0, if_pos (by omega), quoinlaw17_few.j2, if_pos (decide_eq_true (by omega)), if_pos (by omega), if_pos (by omega)]
          unfold rd_T43
          rw [Int.toNat_natCast, if_neg (by omega), if_pos (by omega)]
      · refine ⟨2, false, ?_, (fun h => by cases h)⟩
        rw [quoinlaw17_few.l0, if_pos (by omega), quoinlaw17_few.j2, if_pos (decide_eq_true (by omega)), if_pos (by omega), if_pos (by omega)]
        unfold rd_T43
        rw [Int.toNat_natCast, if_pos (by omega)]
    · refine ⟨2, true, ?_, fun _ i h1 h2 h3 => by omega⟩
      rw [quoinlaw17_few.l0, if_pos (by omega), quoinlaw17_few.j2, if_neg (by simp; omega)]

/-- What few lets by. -/
def FewP (s : ByteArray) (l : List S43) : Prop := s.size ≤ 100000 ∧ (5000 < l.length ∨ (l.length ≤ 200 ∧ ∀ d ∈ l, smallDep d))

theorem few_law (s : ByteArray) (l : List S43) (hl : l.length ≤ 9223372036854775807) : ∃ k r, quoinlaw17_few.f k s l = some r ∧ (r = true → FewP s l) := by
  obtain ⟨k, r, e, hr⟩ := few_loop l hl _ 0 rfl (Nat.zero_le _)
  unfold quoinlaw17_few.f
  by_cases h1 : s.size ≤ 100000
  · by_cases h2 : l.length ≤ 200
    · refine ⟨k + 1, r, ?_, fun h => ⟨h1, .inr ⟨h2, fun d hd => ?_⟩⟩⟩
      · rw [if_neg (by omega), if_neg (by omega), quoinlaw17_few.j0, if_neg (by simp)]
        exact e
      · obtain ⟨i, hi, rfl⟩ := List.getElem_of_mem hd
        have := hr h i (Nat.zero_le _) hi (by omega)
        rwa [List.getD_eq_getElem?_getD, List.getElem?_eq_getElem hi] at this
    · by_cases h3 : l.length ≤ 5000
      · refine ⟨1, false, ?_, (fun h => by cases h)⟩
        rw [if_neg (by omega), if_pos (by omega), quoinlaw17_few.j0, if_pos (decide_eq_true (by omega))]
      · refine ⟨k + 1, r, ?_, fun h => ⟨h1, .inl (by omega)⟩⟩
        rw [if_neg (by omega), if_pos (by omega), quoinlaw17_few.j0, if_neg (by simp; omega)]
        exact e
  · refine ⟨1, false, ?_, (fun h => by cases h)⟩
    rw [if_pos (by omega), quoinlaw17_few.j0, if_pos rfl]

theorem few_c (s : ByteArray) (l : List S43) (hl : l.length ≤ 9223372036854775807) : ∃ r, (r = true → FewP s l) ∧ ∀ (A : Option Addr) (c : Nat) (w : World), Kd.C k43 w A l.length l → l.length ≤ c → Calls Try.prog 10 #[.string s, .slice A l.length c] w fun e w' => e = .returned (.bool r) ∧ Below w.heap.size w w' := by
  obtain ⟨k, r, e, hr⟩ := few_law s l hl
  exact ⟨r, hr, fun A c w h hc => (quoinlaw17_few.calls k s A c l r w h hc e).mono fun _ _ h => ⟨h.1, h.2.below⟩⟩

theorem bytes_beq (a b : ByteArray) : (a.toList == b.toList) = true ↔ a = b := by
  rw [beq_iff_eq, ByteArray.toList_eq, ByteArray.toList_eq]
  exact ⟨fun h => unB_inj h, fun h => by rw [h]⟩

theorem sameDeps_loop (l m : List S43) (hlm : l.length = m.length) (hl : l.length ≤ 9223372036854775807) : ∀ (n j : Nat), l.length - j = n → j ≤ l.length → ∃ k r, quoinref17_SameDeps.l0 k l m j = some r ∧ (r = true ↔ ∀ i, j ≤ i → i < l.length → l.getD i z43 = m.getD i z43)
  | 0, j, hn, hj => by
    refine ⟨1, true, ?_, ⟨fun _ i h1 h2 => by omega, fun _ => rfl⟩⟩
    rw [quoinref17_SameDeps.l0, if_neg (by omega)]
  | n + 1, j, hn, hj => by
    have hq : ((!((((rd_T43 l j).f0).toList) == (((rd_T43 m j).f0).toList)) || (!(((rd_T43 l j).f1) == ((rd_T43 m j).f1)) || (!((((rd_T43 l j).f2).toList) == (((rd_T43 m j).f2).toList))))) = true) ↔ ¬ (l.getD j z43 = m.getD j z43) := by
      unfold rd_T43
      rw [Int.toNat_natCast]
      generalize l.getD j z43 = x
      generalize m.getD j z43 = y
      obtain ⟨x0, x1, x2⟩ := x
      obtain ⟨y0, y1, y2⟩ := y
      simp only [Bool.or_eq_true, Bool.not_eq_true', S43.mk.injEq]
      rw [← Bool.not_eq_true, ← Bool.not_eq_true, ← Bool.not_eq_true, bytes_beq, bytes_beq, beq_iff_eq]
      constructor
      · rintro (h | h | h) ⟨h1, h2, h3⟩
        · exact h h1
        · exact h h2
        · exact h h3
      · intro h
        by_cases h1 : x0 = y0
        · by_cases h2 : x1 = y1
          · by_cases h3 : x2 = y2
            · exact absurd ⟨h1, h2, h3⟩ h
            · exact .inr (.inr h3)
          · exact .inr (.inl h2)
        · exact .inl h1
    by_cases he : l.getD j z43 = m.getD j z43
    · obtain ⟨k, r, e, hr⟩ := sameDeps_loop l m hlm hl n (j + 1) (by omega) (by omega)
      refine ⟨k + 1, r, ?_, ?_⟩
      · rw [quoinref17_SameDeps.l0, if_pos (by omega), if_pos (by omega), if_pos (by omega), if_neg (fun h => hq.1 h he), w64 _ (by omega)]
        exact e
      · rw [hr]
        constructor
        · intro h i h1 h2
          rcases Nat.eq_or_lt_of_le h1 with rfl | h1
          · exact he
          · exact h i h1 h2
        · intro h i h1 h2
          exact h i (by omega) h2
    · refine ⟨1, false, ?_, ⟨(fun h => by cases h), fun h => absurd (h j (Nat.le_refl _) (by omega)) he⟩⟩
      rw [quoinref17_SameDeps.l0, if_pos (by omega), if_pos (by omega), if_pos (by omega), if_pos (hq.2 he)]

theorem list_eq_getD {α : Type} (z : α) {l m : List α} (h : l.length = m.length) : (∀ i, 0 ≤ i → i < l.length → l.getD i z = m.getD i z) ↔ l = m := by
  constructor
  · intro hh
    apply List.ext_getElem h
    intro i h1 h2
    have := hh i (Nat.zero_le _) h1
    simpa [List.getD_eq_getElem?_getD, List.getElem?_eq_getElem h1, List.getElem?_eq_getElem h2] using this
  · rintro rfl i _ _
    rfl

theorem sameDeps_c (l m : List S43) (hl : l.length ≤ 9223372036854775807) : ∃ r : Bool, (r = true ↔ l = m) ∧ ∀ (A : Option Addr) (c : Nat) (B : Option Addr) (d : Nat) (w : World), Kd.C k43 w A l.length l → l.length ≤ c → Kd.C k43 w B m.length m → m.length ≤ d → Calls Try.prog 15 #[.slice A l.length c, .slice B m.length d] w fun e w' => e = .returned (.bool r) ∧ Below w.heap.size w w' := by
  by_cases h : l.length = m.length
  · obtain ⟨k, r, e, hr⟩ := sameDeps_loop l m h hl _ 0 rfl (Nat.zero_le _)
    refine ⟨r, hr.trans (list_eq_getD z43 h), fun A c B d w h1 h2 h3 h4 => (quoinref17_SameDeps.calls k A c l B d m r w h1 h2 h3 h4 ?_).mono fun _ _ h => ⟨h.1, h.2.below⟩⟩
    unfold quoinref17_SameDeps.f
    rw [if_pos (by omega)]
    exact e
  · refine ⟨false, ⟨(fun h => by cases h), fun e => absurd (by rw [e]) h⟩, fun A c B d w h1 h2 h3 h4 => (quoinref17_SameDeps.calls 0 A c l B d m false w h1 h2 h3 h4 ?_).mono fun _ _ h => ⟨h.1, h.2.below⟩⟩
    unfold quoinref17_SameDeps.f
    rw [if_neg (by omega)]

theorem sameDiags_loop (l m : List S45) (hlm : l.length = m.length) (hl : l.length ≤ 9223372036854775807) : ∀ (n j : Nat), l.length - j = n → j ≤ l.length → ∃ k r, quoinref10_SameDiags.l0 k l m j = some r ∧ (r = true ↔ ∀ i, j ≤ i → i < l.length → l.getD i z45 = m.getD i z45)
  | 0, j, hn, hj => by
    refine ⟨1, true, ?_, ⟨fun _ i h1 h2 => by omega, fun _ => rfl⟩⟩
    rw [quoinref10_SameDiags.l0, if_neg (by omega)]
  | n + 1, j, hn, hj => by
    have hq : ((!(((rd_T45 l j).f0) == ((rd_T45 m j).f0)) || (!(((rd_T45 l j).f1) == ((rd_T45 m j).f1)))) = true) ↔ ¬ (l.getD j z45 = m.getD j z45) := by
      unfold rd_T45
      rw [Int.toNat_natCast]
      generalize l.getD j z45 = x
      generalize m.getD j z45 = y
      obtain ⟨x0, x1⟩ := x
      obtain ⟨y0, y1⟩ := y
      simp only [Bool.or_eq_true, Bool.not_eq_true', S45.mk.injEq]
      rw [← Bool.not_eq_true, ← Bool.not_eq_true, beq_iff_eq, beq_iff_eq]
      constructor
      · rintro (h | h) ⟨h1, h2⟩
        · exact h h1
        · exact h h2
      · intro h
        by_cases h1 : x0 = y0
        · by_cases h2 : x1 = y1
          · exact absurd ⟨h1, h2⟩ h
          · exact .inr h2
        · exact .inl h1
    by_cases he : l.getD j z45 = m.getD j z45
    · obtain ⟨k, r, e, hr⟩ := sameDiags_loop l m hlm hl n (j + 1) (by omega) (by omega)
      refine ⟨k + 1, r, ?_, ?_⟩
      · rw [quoinref10_SameDiags.l0, if_pos (by omega), if_pos (by omega), if_pos (by omega), if_neg (fun h => hq.1 h he), w64 _ (by omega)]
        exact e
      · rw [hr]
        constructor
        · intro h i h1 h2
          rcases Nat.eq_or_lt_of_le h1 with rfl | h1
          · exact he
          · exact h i h1 h2
        · intro h i h1 h2
          exact h i (by omega) h2
    · refine ⟨1, false, ?_, ⟨(fun h => by cases h), fun h => absurd (h j (Nat.le_refl _) (by omega)) he⟩⟩
      rw [quoinref10_SameDiags.l0, if_pos (by omega), if_pos (by omega), if_pos (by omega), if_pos (hq.2 he)]

theorem sameDiags_law (l m : List S45) (hl : l.length ≤ 9223372036854775807) : ∃ (k : Nat) (r : Bool), quoinref10_SameDiags.f k l m = some r ∧ (r = true ↔ l = m) := by
  by_cases h : l.length = m.length
  · obtain ⟨k, r, e, hr⟩ := sameDiags_loop l m h hl _ 0 rfl (Nat.zero_le _)
    refine ⟨k, r, ?_, hr.trans (list_eq_getD z45 h)⟩
    unfold quoinref10_SameDiags.f
    rw [if_pos (by omega)]
    exact e
  · refine ⟨0, false, ?_, ⟨(fun h => by cases h), fun e => absurd (by rw [e]) h⟩⟩
    unfold quoinref10_SameDiags.f
    rw [if_neg (by omega)]

theorem same_c (l : List S45) (a : Bool) (s : ByteArray) (m : List S45) (b : Bool) (t : ByteArray) (hl : l.length ≤ 9223372036854775807) : ∃ r : Bool, (r = true ↔ (l = m ∧ a = b ∧ s = t)) ∧ ∀ (A : Option Addr) (c : Nat) (B : Option Addr) (d : Nat) (w : World), Kd.C k45 w A l.length l → l.length ≤ c → Kd.C k45 w B m.length m → m.length ≤ d → Calls Try.prog 20 #[.agg #[.slice A l.length c, .bool a, .string s], .agg #[.slice B m.length d, .bool b, .string t]] w fun e w' => e = .returned (.bool r) ∧ Below w.heap.size w w' := by
  obtain ⟨k, r0, e, hr⟩ := sameDiags_law l m hl
  have hx : ∃ r : Bool, quoinref17_Same.f k l a s m b t = some r ∧ (r = true ↔ (l = m ∧ a = b ∧ s = t)) := by
    unfold quoinref17_Same.f
    rw [e]
    simp only [Option.bind_some]
    cases r0 with
    | false => exact ⟨false, rfl, ⟨(fun h => by cases h), fun h => hr.2 h.1⟩⟩
    | true =>
      rw [if_pos rfl]
      by_cases hab : a = b
      · rw [if_pos (by simpa using hab)]
        refine ⟨_, rfl, ?_⟩
        rw [bytes_beq]
        exact ⟨fun h => ⟨hr.1 rfl, hab, h⟩, fun h => h.2.2⟩
      · rw [if_neg (by simpa using hab)]
        exact ⟨false, rfl, ⟨(fun h => by cases h), fun h => absurd h.2.1 hab⟩⟩
  obtain ⟨r, e2, hr2⟩ := hx
  exact ⟨r, hr2, fun A c B d w h1 h2 h3 h4 => quoinref17_Same.calls k A c l a s B d m b t r w h1 h2 h3 h4 e2⟩

theorem key_c (s : ByteArray) (l : List S43) (A : Option Addr) (c : Nat) (w : World) (hf : FewP s l) (h : Kd.C k43 w A l.length l) :
    Calls Try.prog 11 #[.string s, .slice A l.length c] w fun e w' => e = .returned (.tuple #[.string (keyF s l).1, .int .i64 (keyF s l).2]) ∧ Below w.heap.size w w' := by
  obtain ⟨h1, h2 | ⟨h2, h3⟩⟩ := hf
  · exact key_big s l A c w h2
  · cases hb : l.any bareP with
    | true => exact key_bare s l A c w h (by omega) hb
    | false =>
      refine key_yes s l A c w h (by omega) ?_ hb
      have h4 := deps_length l h3
      simp only [keyB, tx, List.length_append, be4_length, Array.length_toList]
      have : s.data.size = s.size := rfl
      omega
theorem qkey_c (s : ByteArray) (l : List S43) (A : Option Addr) (c : Nat) (w : World) (hf : FewP s l) (h : Kd.C k43 w A l.length l) :
    Calls Try.prog 12 #[.string s, .slice A l.length c] w fun e w' => e = .returned (.tuple #[.string (keyF s l).1, .int .i64 (keyF s l).2]) ∧ Below w.heap.size w w' := by
  obtain ⟨h1, h2 | ⟨h2, h3⟩⟩ := hf
  · exact qkey_big s l A c w h2
  · exact qkey_small s l A c w h h1 h2 h3
theorem pack_c (l : List S45) (has : Bool) (ex : ByteArray) (A : Option Addr) (c : Nat) (w : World) (hs : ex.size ≤ 100000) (h : Kd.C k45 w A l.length l) :
    Calls Try.prog 16 #[.agg #[.slice A l.length c, .bool has, .string ex]] w fun e w' => e = .returned (.tuple #[.string (packF l has ex).1, .int .i64 (packF l has ex).2]) ∧ Below w.heap.size w w' := by
  by_cases hl : 5000 < l.length
  · exact pack_big l has ex A c w hl
  · cases hb : packBad l has ex with
    | true => exact pack_no l has ex A c w h (by omega) hb
    | false => exact pack_yes l has ex A c w h (by omega) hs hb
theorem keyF_ok {s b : ByteArray} {l : List S43} (h : keyF s l = (b, 0)) : l.length ≤ 5000 ∧ l.any bareP = false ∧ b = mkB (keyB s l) := by
  unfold keyF at h
  split at h
  · injection h with _ h; cases h
  · rename_i hn
    injection h with h _
    refine ⟨by omega, ?_, h.symm⟩
    cases hb : l.any bareP with
    | true => exact absurd (.inr hb) hn
    | false => rfl
theorem key_c2 (s b : ByteArray) (l : List S43) (A : Option Addr) (c : Nat) (w : World) (hk : keyF s l = (b, 0)) (hb : b.size ≤ 100000) (h : Kd.C k43 w A l.length l) :
    Calls Try.prog 11 #[.string s, .slice A l.length c] w fun e w' => e = .returned (.tuple #[.string b, .int .i64 0]) ∧ Below w.heap.size w w' := by
  obtain ⟨h1, h2, rfl⟩ := keyF_ok hk
  have h3 := key_yes s l A c w h h1 (by rw [mkB_size] at hb; omega) h2
  rw [hk] at h3
  exact h3
theorem packF_ok {ex b : ByteArray} {has : Bool} {l : List S45} (h : packF l has ex = (b, 0)) : packBad l has ex = false ∧ b = mkB (packB l has ex) := by
  unfold packF at h
  split at h
  · injection h with _ h; cases h
  · rename_i hn
    injection h with h _
    exact ⟨by simpa using hn, h.symm⟩
theorem pack_c2 (ex b : ByteArray) (has : Bool) (l : List S45) (A : Option Addr) (c : Nat) (w : World) (hk : packF l has ex = (b, 0)) (hb : b.size ≤ 100000) (h : Kd.C k45 w A l.length l) :
    Calls Try.prog 16 #[.agg #[.slice A l.length c, .bool has, .string ex]] w fun e w' => e = .returned (.tuple #[.string b, .int .i64 0]) ∧ Below w.heap.size w w' := by
  obtain ⟨h1, rfl⟩ := packF_ok hk
  have h2 : ex.size ≤ 100000 := by
    rw [mkB_size] at hb
    simp only [packB, tx, List.length_append, Array.length_toList] at hb
    have : ex.data.size = ex.size := rfl
    omega
  have h3 := pack_c l has ex A c w h2 h
  rw [hk] at h3
  exact h3
end Go.Proofs.Ytnafeapbglflnaa
