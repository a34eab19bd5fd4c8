/- The document's token: the other ways. -/
import Derived.Test.YtlmggfbpdciioaaDoorRtB
namespace Go.Proofs.YtlmggfbpdciioaaDoor
open Go.RowKit PRef Go.Proofs.YtlmggfbpdciioaaDoorW.PrintWords
set_option linter.unusedVariables false

set_option maxHeartbeats 1000000 in
theorem rtoken_digit (s : ByteArray) (hs : s.size ≤ 9223372036854775806) (a : Nat) (ha : a < s.size) (w : World) (hl : letterB s[a] = false) (hdg : digitB s[a] = true) :
    Calls Tryd.prog 28 #[.string s, .int .i64 (a : Int)] w (RPost (tokC s[a] (s.data.toList.drop (a + 1))) a w) := by
  have hd := drop_at s a ha
  have hwh := wh_cons digitB s[a] (s.data.toList.drop (a + 1))
  rw [if_pos hdg] at hwh
  have hle := wh_le digitB (s.data.toList.drop (a + 1))
  rw [List.length_drop, len_toList] at hle
  have htok : tokC s[a] (s.data.toList.drop (a + 1)) = (2, wh digitB (s.data.toList.drop (a + 1)) + 1, if wh digitB (s.data.toList.drop (a + 1)) + 1 > 15 ∨ (s[a] = 48 ∧ wh digitB (s.data.toList.drop (a + 1)) + 1 > 1) then 2 else 0) := by
    unfold tokC
    rw [if_neg (by rw [hl]; simp), if_pos hdg]
  have hW := rnumber_c s hs a (by omega)
  rw [hd, hwh] at hW
  rw [htok]
  generalize wh digitB (s.data.toList.drop (a + 1)) = m at *
  obtain ⟨k, hk⟩ : ∃ k, k = a + (m + 1) := ⟨_, rfl⟩
  rw [← hk] at hW
  have hL := rletter_c s[a]
  rw [hl] at hL
  have hD := rdigit_c s[a]
  rw [hdg] at hD
  have hI := rin_c s[a]
  generalize decide (s[a] ∈ symsL) = sb at *
  have HL := Lib.hid hL
  have HD := Lib.hid hD
  have HI := Lib.hid hI
  have HW := Lib.hid hW
  have hks : k ≤ s.size := by omega
  have hka : a < k := by omega
  obtain ⟨r, hr⟩ : ∃ r, r = (2, m + 1, if m + 1 > 15 ∨ (s[a] = 48 ∧ m + 1 > 1) then 2 else 0) := ⟨_, rfl⟩
  rw [← hr]
  have hq : (k : Int) - (a : Int) = (m : Int) + 1 := by omega
  have h48 := byte_eq s[a] 48 (by omega)
  have HR := Lib.hid hr
  have HK := Lib.hid hk
  have HQ := Lib.hid hq
  have H48 := Lib.hid h48
  have h1 : r.1 = 2 := by rw [hr]
  have h2 : r.2.1 = m + 1 := by rw [hr]
  have H1 := Lib.hid h1
  have H2 := Lib.hid h2
  clear hL hD hI hW hwh hd htok hl hdg hk hle hr hq h48 h1 h2
  by_cases h15 : (15 : Int) < (k : Int) - (a : Int)
  · go_enter Tryd.func28, Tryd.ntmps28
    go_wp2_with (first | (go_at_call 39; refine (HL.out _).mono ?_; rintro e w' ⟨rfl, rfl⟩) | (go_at_call 40; refine (HD.out _).mono ?_; rintro e w' ⟨rfl, rfl⟩) | (go_at_call 41; refine (HI.out _).mono ?_; rintro e w' ⟨rfl, rfl⟩) | (go_at_call 43; refine (HW.out _).mono ?_; rintro e w' ⟨rfl, rfl⟩))
    have := HQ.out
    have hx : r.2.2 = 2 := by rw [HR.out]; exact if_pos (.inl (by omega))
    exact rtok_end (blk_alloc (blk_new w _) _) rfl rfl rfl (by rw [rkd_of H1.out hx (by decide)]; rfl) rfl (by rw [ren_of a H2.out hx (by decide) (by decide), ← HK.out]) rfl (by rw [hx]; rfl) (bel_alloc (bel_alloc (Below.refl _ _) _) _)
  · by_cases hz : s[a] = 48
    · have hz' : ((s[a].toNat : Int) == 48) = true := by have := H48.out; rw [show ((48 : Int)) = ((48 : Nat) : Int) from rfl, this]; simpa using hz
      have HZ := Lib.hid hz
      clear hz
      by_cases h1 : (1 : Int) < (k : Int) - (a : Int)
      · go_enter Tryd.func28, Tryd.ntmps28
        go_wp2_with (first | (go_at_call 39; refine (HL.out _).mono ?_; rintro e w' ⟨rfl, rfl⟩) | (go_at_call 40; refine (HD.out _).mono ?_; rintro e w' ⟨rfl, rfl⟩) | (go_at_call 41; refine (HI.out _).mono ?_; rintro e w' ⟨rfl, rfl⟩) | (go_at_call 43; refine (HW.out _).mono ?_; rintro e w' ⟨rfl, rfl⟩))
        have := HQ.out
        have hx : r.2.2 = 2 := by rw [HR.out]; exact if_pos (.inr ⟨HZ.out, by omega⟩)
        exact rtok_end (blk_alloc (blk_new w _) _) rfl rfl rfl (by rw [rkd_of H1.out hx (by decide)]; rfl) rfl (by rw [ren_of a H2.out hx (by decide) (by decide), ← HK.out]) rfl (by rw [hx]; rfl) (bel_alloc (bel_alloc (Below.refl _ _) _) _)
      · go_enter Tryd.func28, Tryd.ntmps28
        go_wp2_with (first | (go_at_call 39; refine (HL.out _).mono ?_; rintro e w' ⟨rfl, rfl⟩) | (go_at_call 40; refine (HD.out _).mono ?_; rintro e w' ⟨rfl, rfl⟩) | (go_at_call 41; refine (HI.out _).mono ?_; rintro e w' ⟨rfl, rfl⟩) | (go_at_call 43; refine (HW.out _).mono ?_; rintro e w' ⟨rfl, rfl⟩))
        have := HQ.out
        have hx : r.2.2 = 0 := by rw [HR.out]; exact if_neg (by omega)
        exact rtok_end (blk_alloc (blk_new w _) _) rfl rfl rfl (by rw [rkd_of H1.out hx (by decide)]; rfl) rfl (by rw [ren_of a H2.out hx (by decide) (by decide), ← HK.out]) rfl (by rw [hx]; rfl) (bel_alloc (bel_alloc (Below.refl _ _) _) _)
    · have hz' : ((s[a].toNat : Int) == 48) = false := by have := H48.out; rw [show ((48 : Int)) = ((48 : Nat) : Int) from rfl, this]; simpa using hz
      have HZ := Lib.hid hz
      clear hz
      go_enter Tryd.func28, Tryd.ntmps28
      go_wp2_with (first | (go_at_call 39; refine (HL.out _).mono ?_; rintro e w' ⟨rfl, rfl⟩) | (go_at_call 40; refine (HD.out _).mono ?_; rintro e w' ⟨rfl, rfl⟩) | (go_at_call 41; refine (HI.out _).mono ?_; rintro e w' ⟨rfl, rfl⟩) | (go_at_call 43; refine (HW.out _).mono ?_; rintro e w' ⟨rfl, rfl⟩))
      have := HQ.out
      have hx : r.2.2 = 0 := by rw [HR.out]; exact if_neg (fun h => h.elim (fun h => by omega) (fun h => HZ.out h.1))
      exact rtok_end (blk_alloc (blk_new w _) _) rfl rfl rfl (by rw [rkd_of H1.out hx (by decide)]; rfl) rfl (by rw [ren_of a H2.out hx (by decide) (by decide), ← HK.out]) rfl (by rw [hx]; rfl) (bel_alloc (bel_alloc (Below.refl _ _) _) _)

set_option maxHeartbeats 1000000 in
theorem rtoken_quote (s : ByteArray) (hs : s.size ≤ 9223372036854775806) (a : Nat) (ha : a < s.size) (w : World) (hl : letterB s[a] = false) (hdg : digitB s[a] = false) (h34 : s[a] = 34) :
    Calls Tryd.prog 28 #[.string s, .int .i64 (a : Int)] w (RPost (tokC s[a] (s.data.toList.drop (a + 1))) a w) := by
  have htok : tokC s[a] (s.data.toList.drop (a + 1)) = (3, wh quoteB (s.data.toList.drop (a + 1)) + 2, if ((s.data.toList.drop (a + 1)).drop (wh quoteB (s.data.toList.drop (a + 1)))).head? = some 34 ∧ wh quoteB (s.data.toList.drop (a + 1)) ≤ 200 then 0 else 3) := by
    unfold tokC
    rw [if_neg (by rw [hl]; simp), if_neg (by rw [hdg]; simp), if_pos h34]
  have hC := rquoted_c s hs a ha
  unfold qEnd at hC
  rw [show a + 1 + wh quoteB (s.data.toList.drop (a + 1)) - a - 1 = wh quoteB (s.data.toList.drop (a + 1)) by omega, show a + 1 + wh quoteB (s.data.toList.drop (a + 1)) + 1 = a + (wh quoteB (s.data.toList.drop (a + 1)) + 2) by omega] at hC
  have hL := rletter_c s[a]
  rw [hl] at hL
  have hD := rdigit_c s[a]
  rw [hdg] at hD
  have hI := rin_c s[a]
  generalize decide (s[a] ∈ symsL) = sb at *
  have hz' : ((s[a].toNat : Int) == 34) = true := by rw [h34]; rfl
  rw [htok]
  generalize wh quoteB (s.data.toList.drop (a + 1)) = m at *
  have HL := Lib.hid hL
  have HD := Lib.hid hD
  have HI := Lib.hid hI
  by_cases hok : ((s.data.toList.drop (a + 1)).drop m).head? = some 34 ∧ m ≤ 200
  · rw [if_pos hok] at hC ⊢
    obtain ⟨k, hk⟩ : ∃ k, k = a + (m + 2) := ⟨_, rfl⟩
    rw [← hk] at hC
    have HC := Lib.hid hC
    have HK := Lib.hid hk
    clear hL hD hI hl hdg h34 hk hC htok hok
    go_enter Tryd.func28, Tryd.ntmps28
    go_wp2_with (first | (go_at_call 39; refine (HL.out _).mono ?_; rintro e w' ⟨rfl, rfl⟩) | (go_at_call 40; refine (HD.out _).mono ?_; rintro e w' ⟨rfl, rfl⟩) | (go_at_call 41; refine (HI.out _).mono ?_; rintro e w' ⟨rfl, rfl⟩) | (go_at_call 44; refine (HC.out _).mono ?_; rintro e w' ⟨rfl, rfl⟩))
    exact rtok_end (blk_alloc (blk_new w _) _) rfl rfl rfl rfl rfl (by rw [HK.out]; rfl) rfl rfl (bel_alloc (bel_alloc (Below.refl _ _) _) _)
  · rw [if_neg hok] at hC ⊢
    have HC := Lib.hid hC
    clear hL hD hI hl hdg h34 hC htok hok
    go_enter Tryd.func28, Tryd.ntmps28
    go_wp2_with (first | (go_at_call 39; refine (HL.out _).mono ?_; rintro e w' ⟨rfl, rfl⟩) | (go_at_call 40; refine (HD.out _).mono ?_; rintro e w' ⟨rfl, rfl⟩) | (go_at_call 41; refine (HI.out _).mono ?_; rintro e w' ⟨rfl, rfl⟩) | (go_at_call 44; refine (HC.out _).mono ?_; rintro e w' ⟨rfl, rfl⟩))
    exact rtok_end (blk_alloc (blk_new w _) _) rfl rfl rfl rfl rfl rfl rfl rfl (bel_alloc (bel_alloc (Below.refl _ _) _) _)

theorem ext_two (s : ByteArray) (a : Nat) (h : a + 1 < s.size) : (s.extract a (a + 2)).toList = [s[a], s[a + 1]] := by
  rw [ByteArray.toList_eq, Lib.extract_data, drop_at s a (by omega), drop_at s (a + 1) h, show a + 2 - a = 2 by omega]
  rfl

set_option maxHeartbeats 2000000 in
theorem rtoken_sym (s : ByteArray) (hs : s.size ≤ 9223372036854775806) (a : Nat) (ha : a < s.size) (w : World) (hl : letterB s[a] = false) (hdg : digitB s[a] = false) (h34 : s[a] ≠ 34) :
    Calls Tryd.prog 28 #[.string s, .int .i64 (a : Int)] w (RPost (tokC s[a] (s.data.toList.drop (a + 1))) a w) := by
  have htok : tokC s[a] (s.data.toList.drop (a + 1)) = if (s[a] = 61 ∨ s[a] = 38) ∧ (s.data.toList.drop (a + 1)).head? = some s[a] then (4, 2, 0) else (4, 1, if s[a] ∈ symsL then 0 else 1) := by
    unfold tokC
    rw [if_neg (by rw [hl]; simp), if_neg (by rw [hdg]; simp), if_neg h34]
  have hL := rletter_c s[a]
  rw [hl] at hL
  have hD := rdigit_c s[a]
  rw [hdg] at hD
  have hI := rin_c s[a]
  have hz' : ((s[a].toNat : Int) == 34) = false := by
    have := byte_eq s[a] 34 (by omega)
    rw [show ((34 : Int)) = ((34 : Nat) : Int) from rfl, this]; simpa using h34
  obtain ⟨r, hr⟩ : ∃ r, r = tokC s[a] (s.data.toList.drop (a + 1)) := ⟨_, rfl⟩
  rw [← hr]
  rw [← hr] at htok
  have HL := Lib.hid hL
  have HD := Lib.hid hD
  clear hL hD hl hdg h34 hr
  by_cases h2 : a + 1 < s.size
  · have hx := ext_two s a h2
    rw [drop_at s (a + 1) h2] at htok
    simp only [List.head?_cons, Option.some.injEq] at htok
    have htok' : r = symR ((s.extract a (a + 2)).toList == [61, 61]) ((s.extract a (a + 2)).toList == [38, 38]) (decide (s[a] ∈ symsL)) := by
      rw [htok, hx]
      unfold symR
      have e1 : (([s[a], s[a + 1]] == [61, 61]) || ([s[a], s[a + 1]] == [38, 38])) = decide ((s[a] = 61 ∨ s[a] = 38) ∧ s[a + 1] = s[a]) := by
        rw [Bool.eq_iff_iff]
        simp only [Bool.or_eq_true, beq_iff_eq, List.cons.injEq, and_true, decide_eq_true_eq]
        constructor
        · rintro (⟨h1, h2⟩ | ⟨h1, h2⟩)
          · exact ⟨.inl h1, by rw [h1, h2]⟩
          · exact ⟨.inr h1, by rw [h1, h2]⟩
        · rintro ⟨h1 | h1, h2⟩
          · exact .inl ⟨h1, by rw [h2, h1]⟩
          · exact .inr ⟨h1, by rw [h2, h1]⟩
      rw [e1]
      simp
    have h2' : (a : Int) + 1 < (s.size : Int) := by omega
    have h3' : (a : Int) + 2 ≤ (s.size : Int) := by omega
    generalize decide (s[a] ∈ symsL) = q at *
    have HI := Lib.hid hI
    clear hx htok h2 hI
    generalize hp1 : ((s.extract a (a + 2)).toList == [61, 61]) = p1 at *
    generalize hp2 : ((s.extract a (a + 2)).toList == [38, 38]) = p2 at *
    have HT := Lib.hid htok'
    clear htok'
    cases p1
    · cases p2
      · cases q
        · go_enter Tryd.func28, Tryd.ntmps28
          go_wp2_with (first | (go_at_call 39; refine (HL.out _).mono ?_; rintro e w' ⟨rfl, rfl⟩) | (go_at_call 40; refine (HD.out _).mono ?_; rintro e w' ⟨rfl, rfl⟩) | (go_at_call 41; refine (HI.out _).mono ?_; rintro e w' ⟨rfl, rfl⟩))
          exact rtok_end (blk_alloc (blk_new w _) _) rfl rfl rfl (by rw [HT.out]; rfl) rfl (by rw [HT.out]; rfl) rfl (by rw [HT.out]; rfl) (bel_alloc (bel_alloc (Below.refl _ _) _) _)
        · go_enter Tryd.func28, Tryd.ntmps28
          go_wp2_with (first | (go_at_call 39; refine (HL.out _).mono ?_; rintro e w' ⟨rfl, rfl⟩) | (go_at_call 40; refine (HD.out _).mono ?_; rintro e w' ⟨rfl, rfl⟩) | (go_at_call 41; refine (HI.out _).mono ?_; rintro e w' ⟨rfl, rfl⟩))
          exact rtok_end (blk_alloc (blk_new w _) _) rfl rfl rfl (by rw [HT.out]; rfl) rfl (by rw [HT.out]; rfl) rfl (by rw [HT.out]; rfl) (bel_alloc (bel_alloc (Below.refl _ _) _) _)
      · go_enter Tryd.func28, Tryd.ntmps28
        go_wp2_with (first | (go_at_call 39; refine (HL.out _).mono ?_; rintro e w' ⟨rfl, rfl⟩) | (go_at_call 40; refine (HD.out _).mono ?_; rintro e w' ⟨rfl, rfl⟩) | (go_at_call 41; refine (HI.out _).mono ?_; rintro e w' ⟨rfl, rfl⟩))
        exact rtok_end (blk_alloc (blk_new w _) _) rfl rfl rfl (by rw [HT.out]; rfl) rfl (by rw [HT.out]; rfl) rfl (by rw [HT.out]; rfl) (bel_alloc (bel_alloc (Below.refl _ _) _) _)
    · go_enter Tryd.func28, Tryd.ntmps28
      go_wp2_with (first | (go_at_call 39; refine (HL.out _).mono ?_; rintro e w' ⟨rfl, rfl⟩) | (go_at_call 40; refine (HD.out _).mono ?_; rintro e w' ⟨rfl, rfl⟩) | (go_at_call 41; refine (HI.out _).mono ?_; rintro e w' ⟨rfl, rfl⟩))
      exact rtok_end (blk_alloc (blk_new w _) _) rfl rfl rfl (by rw [HT.out]; rfl) rfl (by rw [HT.out]; rfl) rfl (by rw [HT.out]; rfl) (bel_alloc (bel_alloc (Below.refl _ _) _) _)
  · have hd : s.data.toList.drop (a + 1) = [] := by
      rw [show a + 1 = s.size by omega]; exact drop_end s
    rw [hd] at htok
    have htok' : r = symR false false (decide (s[a] ∈ symsL)) := by
      rw [htok]
      unfold symR
      simp
    have h2' : ¬ (a : Int) + 1 < (s.size : Int) := by omega
    generalize decide (s[a] ∈ symsL) = q at *
    have HI := Lib.hid hI
    have HT := Lib.hid htok'
    clear hd htok h2 hI htok'
    cases q
    · go_enter Tryd.func28, Tryd.ntmps28
      go_wp2_with (first | (go_at_call 39; refine (HL.out _).mono ?_; rintro e w' ⟨rfl, rfl⟩) | (go_at_call 40; refine (HD.out _).mono ?_; rintro e w' ⟨rfl, rfl⟩) | (go_at_call 41; refine (HI.out _).mono ?_; rintro e w' ⟨rfl, rfl⟩))
      exact rtok_end (blk_alloc (blk_new w _) _) rfl rfl rfl (by rw [HT.out]; rfl) rfl (by rw [HT.out]; rfl) rfl (by rw [HT.out]; rfl) (bel_alloc (bel_alloc (Below.refl _ _) _) _)
    · go_enter Tryd.func28, Tryd.ntmps28
      go_wp2_with (first | (go_at_call 39; refine (HL.out _).mono ?_; rintro e w' ⟨rfl, rfl⟩) | (go_at_call 40; refine (HD.out _).mono ?_; rintro e w' ⟨rfl, rfl⟩) | (go_at_call 41; refine (HI.out _).mono ?_; rintro e w' ⟨rfl, rfl⟩))
      exact rtok_end (blk_alloc (blk_new w _) _) rfl rfl rfl (by rw [HT.out]; rfl) rfl (by rw [HT.out]; rfl) rfl (by rw [HT.out]; rfl) (bel_alloc (bel_alloc (Below.refl _ _) _) _)

theorem rtoken_any (s : ByteArray) (hs : s.size ≤ 9223372036854775806) (a : Nat) (ha : a < s.size) (w : World) :
    Calls Tryd.prog 28 #[.string s, .int .i64 (a : Int)] w (RPost (tokC s[a] (s.data.toList.drop (a + 1))) a w) := by
  cases hl : letterB s[a]
  · cases hd : digitB s[a]
    · by_cases h34 : s[a] = 34
      · exact rtoken_quote s hs a ha w hl hd h34
      · exact rtoken_sym s hs a ha w hl hd h34
    · exact rtoken_digit s hs a ha w hl hd
  · exact rtoken_letter s hs a ha w hl
end Go.Proofs.YtlmggfbpdciioaaDoor
