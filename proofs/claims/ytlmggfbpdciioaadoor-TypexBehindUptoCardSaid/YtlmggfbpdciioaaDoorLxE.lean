/- lex: token, the other ways. -/
import Derived.Test.YtlmggfbpdciioaaDoorLxD
namespace Go.Proofs.YtlmggfbpdciioaaDoor
open Go.RowKit
set_option linter.unusedVariables false

theorem bel_set {w W : World} (h : Below w.heap.size w W) {b j : Nat} {v : Value} (hb : w.heap.size ≤ b) : Below w.heap.size w (W.setCell ⟨b, j, none⟩ v) := h.setCell (p := ⟨b, j, none⟩) hb v
theorem byte_eq (c : UInt8) (n : Nat) (hn : n < 256) : ((c.toNat : Int) == (n : Int)) = decide (c = UInt8.ofNat n) := by
  rw [Bool.eq_iff_iff]
  simp only [beq_iff_eq, decide_eq_true_eq]
  constructor
  · intro h
    apply UInt8.toNat_inj.1
    have : (UInt8.ofNat n).toNat = n := by simp; omega
    omega
  · intro h
    subst h
    have : (UInt8.ofNat n).toNat = n := by simp; omega
    omega

set_option maxHeartbeats 1000000 in
theorem token_digit (s : ByteArray) (hs : s.size ≤ 9223372036854775806) (a : Nat) (ha : a < s.size) (b : Nat) (w : World) (hl : letterB s[a] = false) (hdg : digitB s[a] = true) :
    Calls Tryd.prog 38 #[.string s, .int .i64 (a : Int), .map (some b)] w (TokPost (tokC s[a] (s.data.toList.drop (a + 1))) a w) := by
  have hd := drop_at s a ha
  have hwh := wh_cons digitB s[a] (s.data.toList.drop (a + 1))
  rw [if_pos hdg] at hwh
  have hle := wh_le digitB (s.data.toList.drop (a + 1))
  rw [List.length_drop, len_toList] at hle
  have htok : tokC s[a] (s.data.toList.drop (a + 1)) = (2, wh digitB (s.data.toList.drop (a + 1)) + 1, if wh digitB (s.data.toList.drop (a + 1)) + 1 > 15 ∨ (s[a] = 48 ∧ wh digitB (s.data.toList.drop (a + 1)) + 1 > 1) then 2 else 0) := by
    unfold tokC
    rw [if_neg (by rw [hl]; simp), if_pos hdg]
  have hW := while_any 54 digitB digit_is (enters_of Tryd.func54 (by kernel_rfl) rfl) s hs a (by omega)
  rw [hd, hwh] at hW
  rw [htok]
  generalize wh digitB (s.data.toList.drop (a + 1)) = m at *
  obtain ⟨k, hk⟩ : ∃ k, k = a + (m + 1) := ⟨_, rfl⟩
  rw [← hk] at hW
  have hL := letter_is s[a]
  rw [hl] at hL
  have hD := digit_is s[a]
  rw [hdg] at hD
  have HL := Lib.hid hL
  have HD := Lib.hid hD
  have HW := Lib.hid hW
  have hks : k ≤ s.size := by omega
  have hka : a < k := by omega
  obtain ⟨r, hr⟩ : ∃ r, r = (2, m + 1, if m + 1 > 15 ∨ (s[a] = 48 ∧ m + 1 > 1) then 2 else 0) := ⟨_, rfl⟩
  rw [← hr]
  have hq : (k : Int) - (a : Int) = (m : Int) + 1 := by omega
  have h48 := byte_eq s[a] 48 (by omega)
  have HR := Lib.hid hr
  have HK := Lib.hid hk
  have HQ := Lib.hid hq
  have H48 := Lib.hid h48
  clear hL hD hW hwh hd htok hl hdg hk hle hr hq h48
  by_cases h15 : (15 : Int) < (k : Int) - (a : Int)
  · go_enter Tryd.func38, Tryd.ntmps38
    go_wp2_with (first | (go_at_call 52; refine (HL.out _).mono ?_; rintro e w' ⟨rfl, rfl⟩) | (go_at_call 54; refine (HD.out _).mono ?_; rintro e w' ⟨rfl, rfl⟩) | (go_at_call 47; refine (HW.out _).mono ?_; rintro e w' ⟨rfl, rfl⟩))
    have := HQ.out
    exact token_end 2 a k 2 (blk_alloc (blk_new w _) _) rfl rfl rfl (by rw [HR.out]; exact if_pos (.inl (by omega))) (fun h => by cases h) (bel_alloc (bel_alloc (Below.refl _ _) _) _)
  · by_cases hz : s[a] = 48
    · have hz' : ((s[a].toNat : Int) == 48) = true := by have := H48.out; rw [show ((48 : Int)) = ((48 : Nat) : Int) from rfl, this]; simpa using hz
      have HZ := Lib.hid hz
      clear hz
      by_cases h1 : (1 : Int) < (k : Int) - (a : Int)
      · go_enter Tryd.func38, Tryd.ntmps38
        go_wp2_with (first | (go_at_call 52; refine (HL.out _).mono ?_; rintro e w' ⟨rfl, rfl⟩) | (go_at_call 54; refine (HD.out _).mono ?_; rintro e w' ⟨rfl, rfl⟩) | (go_at_call 47; refine (HW.out _).mono ?_; rintro e w' ⟨rfl, rfl⟩))
        have := HQ.out
        exact token_end 2 a k 2 (blk_alloc (blk_new w _) _) rfl rfl rfl (by rw [HR.out]; exact if_pos (.inr ⟨HZ.out, by omega⟩)) (fun h => by cases h) (bel_alloc (bel_alloc (Below.refl _ _) _) _)
      · go_enter Tryd.func38, Tryd.ntmps38
        go_wp2_with (first | (go_at_call 52; refine (HL.out _).mono ?_; rintro e w' ⟨rfl, rfl⟩) | (go_at_call 54; refine (HD.out _).mono ?_; rintro e w' ⟨rfl, rfl⟩) | (go_at_call 47; refine (HW.out _).mono ?_; rintro e w' ⟨rfl, rfl⟩))
        have := HQ.out
        exact token_end 2 a k 0 (blk_alloc (blk_new w _) _) rfl rfl rfl (by rw [HR.out]; exact if_neg (by omega)) (fun h => ⟨by rw [HR.out], rfl, by rw [HR.out]; exact HK.out⟩) (bel_alloc (bel_alloc (Below.refl _ _) _) _)
    · have hz' : ((s[a].toNat : Int) == 48) = false := by have := H48.out; rw [show ((48 : Int)) = ((48 : Nat) : Int) from rfl, this]; simpa using hz
      have HZ := Lib.hid hz
      clear hz
      go_enter Tryd.func38, Tryd.ntmps38
      go_wp2_with (first | (go_at_call 52; refine (HL.out _).mono ?_; rintro e w' ⟨rfl, rfl⟩) | (go_at_call 54; refine (HD.out _).mono ?_; rintro e w' ⟨rfl, rfl⟩) | (go_at_call 47; refine (HW.out _).mono ?_; rintro e w' ⟨rfl, rfl⟩))
      have := HQ.out
      exact token_end 2 a k 0 (blk_alloc (blk_new w _) _) rfl rfl rfl (by rw [HR.out]; exact if_neg (fun h => h.elim (fun h => by omega) (fun h => HZ.out h.1))) (fun h => ⟨by rw [HR.out], rfl, by rw [HR.out]; exact HK.out⟩) (bel_alloc (bel_alloc (Below.refl _ _) _) _)

theorem token_quote_aux (s : ByteArray) (hs : s.size ≤ 9223372036854775806) (a : Nat) (ha : a < s.size) (b : Nat) (w : World) (hl : letterB s[a] = false) (hdg : digitB s[a] = false) (h34 : s[a] = 34) (kd at_ en x : Nat) (r : Nat × Nat × Nat)
    (hC : ∀ w, Calls Tryd.prog 55 #[.string s, .int .i64 (a : Int)] w fun e w' => e = .returned (.tuple #[tkV kd at_ en ByteArray.empty, .int .i64 (x : Int)]) ∧ Below w.heap.size w w') (hx : r.2.2 = x) (hk : x = 0 → kd = r.1 ∧ at_ = a ∧ en = a + r.2.1) :
    Calls Tryd.prog 38 #[.string s, .int .i64 (a : Int), .map (some b)] w (TokPost r a w) := by
  have hL := letter_is s[a]
  rw [hl] at hL
  have hD := digit_is s[a]
  rw [hdg] at hD
  have HL := Lib.hid hL
  have HD := Lib.hid hD
  have hz' : ((s[a].toNat : Int) == 34) = true := by rw [h34]; rfl
  have HK := Lib.hid hk
  have HX := Lib.hid hx
  have HC := Lib.hid hC
  clear hL hD hl hdg h34 hk hx hC
  go_enter Tryd.func38, Tryd.ntmps38
  go_wp2_with (first | (go_at_call 52; refine (HL.out _).mono ?_; rintro e w' ⟨rfl, rfl⟩) | (go_at_call 54; refine (HD.out _).mono ?_; rintro e w' ⟨rfl, rfl⟩))
  refine (HC.out _).mono ?_
  rintro e w1 ⟨rfl, hb1⟩
  have hc := blk_later hb1 (blk_alloc (blk_new w _) _)
  have HB := Lib.hid (bel_trans (bel_alloc (bel_alloc (Below.refl _ _) _) _) hb1)
  have c0 := (blk_cell hc 0).trans rfl
  have c1 := (blk_cell hc 1).trans rfl
  have c2 := (blk_cell hc 2).trans rfl
  have c3 := (blk_cell hc 3).trans rfl
  have f0 := blk_free hc 0
  have f1 := blk_free hc 1
  have f2 := blk_free hc 2
  have f3 := blk_free hc 3
  have HH := Lib.hid hc
  clear hc hb1 HC
  unfold tkV
  go_wp2
  refine token_end kd at_ en x ((blk_set (blk_set (blk_set (blk_set HH.out 0 _) 1 _) 2 _) 3 _).trans rfl) rfl rfl rfl HX.out HK.out ?_
  exact bel_set (bel_set (bel_set (bel_set HB.out (Nat.le_refl _)) (Nat.le_refl _)) (Nat.le_refl _)) (Nat.le_refl _)

theorem token_quote (s : ByteArray) (hs : s.size ≤ 9223372036854775806) (a : Nat) (ha : a < s.size) (b : Nat) (w : World) (hl : letterB s[a] = false) (hdg : digitB s[a] = false) (h34 : s[a] = 34) :
    Calls Tryd.prog 38 #[.string s, .int .i64 (a : Int), .map (some b)] w (TokPost (tokC s[a] (s.data.toList.drop (a + 1))) a w) := by
  have htok : tokC s[a] (s.data.toList.drop (a + 1)) = (3, wh quoteB (s.data.toList.drop (a + 1)) + 2, if ((s.data.toList.drop (a + 1)).drop (wh quoteB (s.data.toList.drop (a + 1)))).head? = some 34 ∧ wh quoteB (s.data.toList.drop (a + 1)) ≤ 200 then 0 else 3) := by
    unfold tokC
    rw [if_neg (by rw [hl]; simp), if_neg (by rw [hdg]; simp), if_pos h34]
  have hC := fun w => quoted_any s hs a ha w
  by_cases hok : quoteOk s a
  · have hok' := hok
    unfold quoteOk at hok'
    rw [htok, if_pos hok']
    exact token_quote_aux s hs a ha b w hl hdg h34 3 a _ 0 _ (fun w => (hC w).1 hok) rfl (fun _ => ⟨rfl, rfl, by simp only; omega⟩)
  · have hok' := hok
    unfold quoteOk at hok'
    rw [htok, if_neg hok']
    exact token_quote_aux s hs a ha b w hl hdg h34 0 0 0 3 _ (fun w => (hC w).2 hok) rfl (fun h => by cases h)

theorem prefix_two (c : UInt8) (r : List UInt8) (x : UInt8) : Lib.hasPrefix (c :: r) [x, x] = decide (c = x ∧ r.head? = some x) := by
  unfold Lib.hasPrefix
  rcases r with _ | ⟨d, r⟩
  · simp [List.isPrefixOf]
  · simp only [List.isPrefixOf, List.head?_cons, Option.some.injEq]
    rw [Bool.eq_iff_iff]
    simp only [Bool.and_eq_true, beq_iff_eq, decide_eq_true_eq, and_true]
    constructor
    · rintro ⟨h1, h2⟩; exact ⟨h1.symm, h2.symm⟩
    · rintro ⟨h1, h2⟩; exact ⟨h1.symm, h2.symm⟩

def symR (p1 p2 q : Bool) : Nat × Nat × Nat := if p1 || p2 then (4, 2, 0) else (4, 1, if q then 0 else 1)
set_option maxHeartbeats 1000000 in
theorem token_sym (s : ByteArray) (hs : s.size ≤ 9223372036854775806) (a : Nat) (ha : a < s.size) (b : Nat) (w : World) (hl : letterB s[a] = false) (hdg : digitB s[a] = false) (h34 : s[a] ≠ 34) :
    Calls Tryd.prog 38 #[.string s, .int .i64 (a : Int), .map (some b)] w (TokPost (tokC s[a] (s.data.toList.drop (a + 1))) a w) := by
  have htok : tokC s[a] (s.data.toList.drop (a + 1)) = if (s[a] = 61 ∨ s[a] = 38) ∧ (s.data.toList.drop (a + 1)).head? = some s[a] then (4, 2, 0) else (4, 1, if s[a] ∈ symsL then 0 else 1) := by
    unfold tokC
    rw [if_neg (by rw [hl]; simp), if_neg (by rw [hdg]; simp), if_neg h34]
  have hd := drop_at s a ha
  have hx := Lib.extract_to_end s a
  rw [hd] at hx
  have hP1 := fun w => Tryd.strings_HasPrefix (s.extract a s.size) ⟨#[61, 61]⟩ w
  have hP2 := fun w => Tryd.strings_HasPrefix (s.extract a s.size) ⟨#[38, 38]⟩ w
  rw [hx] at hP1 hP2
  simp only [prefix_two] at hP1 hP2
  have hI := fun w => Tryd.strings_IndexByte ⟨#[40, 41, 123, 125, 91, 93, 44, 59, 46, 61, 60, 43, 45, 42, 33]⟩ (s[a].toNat : Int) w
  have hsy := sym_or s[a]
  have hc8 : ((s[a].toNat : Int)).toNat.toUInt8 = s[a] := by simp
  rw [hc8] at hI
  have hL := letter_is s[a]
  rw [hl] at hL
  have hD := digit_is s[a]
  rw [hdg] at hD
  have HL := Lib.hid hL
  have HD := Lib.hid hD
  have hz' : ((s[a].toNat : Int) == 34) = false := by
    have := byte_eq s[a] 34 (by omega)
    rw [show ((34 : Int)) = ((34 : Nat) : Int) from rfl, this]; simpa using h34
  generalize (s.data.toList.drop (a + 1)) = rr at *
  generalize hix : Lib.indexByte [40, 41, 123, 125, 91, 93, 44, 59, 46, 61, 60, 43, 45, 42, 33] s[a] = ix at *
  have HI := Lib.hid hI
  have hcond : ((s[a] = 61 ∨ s[a] = 38) ∧ rr.head? = some s[a]) ↔ (decide (s[a] = 61 ∧ rr.head? = some 61) = true ∨ decide (s[a] = 38 ∧ rr.head? = some 38) = true) := by
    simp only [decide_eq_true_eq]
    constructor
    · rintro ⟨h1 | h1, h2⟩
      · exact .inl ⟨h1, by rw [h2, h1]⟩
      · exact .inr ⟨h1, by rw [h2, h1]⟩
    · rintro (⟨h1, h2⟩ | ⟨h1, h2⟩)
      · exact ⟨.inl h1, by rw [h2, h1]⟩
      · exact ⟨.inr h1, by rw [h2, h1]⟩
  simp only [hcond] at htok
  generalize hp1 : decide (s[a] = 61 ∧ rr.head? = some 61) = p1 at *
  generalize hp2 : decide (s[a] = 38 ∧ rr.head? = some 38) = p2 at *
  obtain ⟨r, hr⟩ : ∃ r, r = tokC s[a] rr := ⟨_, rfl⟩
  rw [← hr] at htok ⊢
  have htok' : r = symR p1 p2 (decide (s[a] ∈ symsL)) := by
    rw [htok]
    unfold symR
    simp
  generalize decide (s[a] ∈ symsL) = q at *
  have HT := Lib.hid htok'
  have HP1 := Lib.hid hP1
  have HP2 := Lib.hid hP2
  have HSY := Lib.hid hsy
  clear hL hD hl hdg h34 htok htok' hd hx hI hsy hc8 hix hP1 hP2 hcond hp1 hp2 hr
  cases p1
  · cases p2
    · cases q
      · have hneg : ix < 0 := by simpa using HSY.out
        go_enter Tryd.func38, Tryd.ntmps38
        go_wp2_with (first | (go_at_call 52; refine (HL.out _).mono ?_; rintro e w' ⟨rfl, rfl⟩) | (go_at_call 54; refine (HD.out _).mono ?_; rintro e w' ⟨rfl, rfl⟩) | (go_at_call 49; refine (HI.out _).mono ?_; rintro e w' ⟨rfl, rfl⟩) | (go_at_call 50; refine (HP1.out _).mono ?_; clear HP1; rintro e w' ⟨rfl, rfl⟩) | (go_at_call 50; refine (HP2.out _).mono ?_; clear HP2; rintro e w' ⟨rfl, rfl⟩))
        exact token_end 4 a (a + 1) 1 (blk_alloc (blk_new w _) _) rfl rfl rfl (by rw [HT.out]; rfl) (fun h => by cases h) (bel_alloc (bel_alloc (Below.refl _ _) _) _)
      · have hneg : ¬ ix < 0 := by simpa using HSY.out
        go_enter Tryd.func38, Tryd.ntmps38
        go_wp2_with (first | (go_at_call 52; refine (HL.out _).mono ?_; rintro e w' ⟨rfl, rfl⟩) | (go_at_call 54; refine (HD.out _).mono ?_; rintro e w' ⟨rfl, rfl⟩) | (go_at_call 49; refine (HI.out _).mono ?_; rintro e w' ⟨rfl, rfl⟩) | (go_at_call 50; refine (HP1.out _).mono ?_; clear HP1; rintro e w' ⟨rfl, rfl⟩) | (go_at_call 50; refine (HP2.out _).mono ?_; clear HP2; rintro e w' ⟨rfl, rfl⟩))
        exact token_end 4 a (a + 1) 0 (blk_alloc (blk_new w _) _) rfl rfl rfl (by rw [HT.out]; rfl) (fun h => ⟨by rw [HT.out]; rfl, rfl, by rw [HT.out]; rfl⟩) (bel_alloc (bel_alloc (Below.refl _ _) _) _)
    · go_enter Tryd.func38, Tryd.ntmps38
      go_wp2_with (first | (go_at_call 52; refine (HL.out _).mono ?_; rintro e w' ⟨rfl, rfl⟩) | (go_at_call 54; refine (HD.out _).mono ?_; rintro e w' ⟨rfl, rfl⟩) | (go_at_call 49; refine (HI.out _).mono ?_; rintro e w' ⟨rfl, rfl⟩) | (go_at_call 50; refine (HP1.out _).mono ?_; clear HP1; rintro e w' ⟨rfl, rfl⟩) | (go_at_call 50; refine (HP2.out _).mono ?_; clear HP2; rintro e w' ⟨rfl, rfl⟩))
      exact token_end 4 a (a + 2) 0 (blk_alloc (blk_new w _) _) rfl rfl rfl (by rw [HT.out]; rfl) (fun h => ⟨by rw [HT.out]; rfl, rfl, by rw [HT.out]; rfl⟩) (bel_alloc (bel_alloc (Below.refl _ _) _) _)
  · go_enter Tryd.func38, Tryd.ntmps38
    go_wp2_with (first | (go_at_call 52; refine (HL.out _).mono ?_; rintro e w' ⟨rfl, rfl⟩) | (go_at_call 54; refine (HD.out _).mono ?_; rintro e w' ⟨rfl, rfl⟩) | (go_at_call 49; refine (HI.out _).mono ?_; rintro e w' ⟨rfl, rfl⟩) | (go_at_call 50; refine (HP1.out _).mono ?_; clear HP1; rintro e w' ⟨rfl, rfl⟩) | (go_at_call 50; refine (HP2.out _).mono ?_; clear HP2; rintro e w' ⟨rfl, rfl⟩))
    exact token_end 4 a (a + 2) 0 (blk_alloc (blk_new w _) _) rfl rfl rfl (by rw [HT.out]; rfl) (fun h => ⟨by rw [HT.out]; rfl, rfl, by rw [HT.out]; rfl⟩) (bel_alloc (bel_alloc (Below.refl _ _) _) _)
end Go.Proofs.YtlmggfbpdciioaaDoor
