/- The law PosJoins, walked. -/
import Derived.Test.YtpncoliiimpgcaaWalkF
namespace Go.Proofs.Ytpncoliiimpgcaa
open Go.RowKit
set_option linter.unusedVariables false

theorem begsTo_ten (s : ByteArray) : ∀ i, ∀ x ∈ begsTo s i, x = 0 ∨ (1 ≤ x ∧ (s.get! (x - 1).toNat).toNat = 10)
  | 0 => by simp [begsTo]
  | i + 1 => by
    rw [begsTo_succ]
    intro x hx
    split at hx
    · rename_i h10
      rcases List.mem_append.1 hx with h | h
      · exact begsTo_ten s i x h
      · simp at h
        subst h
        right
        exact ⟨by omega, by simpa using h10⟩
    · exact begsTo_ten s i x hx

theorem ten_begsTo (s : ByteArray) (p : Nat) (h : (s.get! p).toNat = 10) : ∀ i, p < i → ((p : Int) + 1) ∈ begsTo s i
  | 0, hp => by omega
  | i + 1, hp => by
    rw [begsTo_succ]
    by_cases e : p = i
    · subst e
      rw [if_pos h]
      simp
    · have := ten_begsTo s p h i (by omega)
      split
      · exact List.mem_append_left _ this
      · exact this

theorem getb (s : ByteArray) (i : Nat) (h : i < s.size) : s.get! i = s[i] := get_at s i h

/-- No byte of a line is 10. -/
theorem line_no_ten (s : ByteArray) (n : Nat) (h0 : 1 ≤ n) (h1 : n < (begs s).length) (k : Nat) (hk : k < (s.extract ((begs s).getD (n - 1) 0).toNat ((begs s).getD n 0 - 1).toNat).size) :
    (((s.extract ((begs s).getD (n - 1) 0).toNat ((begs s).getD n 0 - 1).toNat)[k]).toNat : Int) ≠ 10 := by
  have hb := begs_line s n h0 h1
  have hsz : (s.extract ((begs s).getD (n - 1) 0).toNat ((begs s).getD n 0 - 1).toNat).size = ((begs s).getD n 0 - 1).toNat - ((begs s).getD (n - 1) 0).toNat := by rw [ByteArray.size_extract]; omega
  rw [hsz] at hk
  intro h
  have hp : ((begs s).getD (n - 1) 0).toNat + k < s.size := by omega
  have e : (s.extract ((begs s).getD (n - 1) 0).toNat ((begs s).getD n 0 - 1).toNat)[k] = s[((begs s).getD (n - 1) 0).toNat + k] := by
    simp [ByteArray.getElem_extract]
  rw [e, ← getb s _ hp] at h
  have hm : (((((begs s).getD (n - 1) 0).toNat + k : Nat) : Int) + 1) ∈ begs s := by
    exact List.mem_append_left _ (ten_begsTo s _ (by omega) _ hp)
  obtain ⟨t, ht, het⟩ := List.getElem_of_mem hm
  have het2 : (begs s).getD t 0 = ((((begs s).getD (n - 1) 0).toNat + k : Nat) : Int) + 1 := by rw [List.getD_eq_getElem?_getD, List.getElem?_eq_getElem ht]; exact het
  have h2 : n - 1 < t := by
    rcases Nat.lt_or_ge (n - 1) t with h3 | h3
    · exact h3
    · rcases Nat.eq_or_lt_of_le h3 with h4 | h4
      · subst h4; omega
      · have := begs_lt s t (n - 1) h4 (by omega); omega
  have h3 : t < n := by
    rcases Nat.lt_or_ge t n with h3 | h3
    · exact h3
    · rcases Nat.eq_or_lt_of_le h3 with h4 | h4
      · subst h4; omega
      · have := begs_lt s n t h4 ht; omega
  omega

theorem extract_app (s : ByteArray) (i j : Nat) (h : i ≤ j) (hj : j ≤ s.size) : s.extract 0 i ++ s.extract i j = s.extract 0 j := by
  apply ByteArray.ext
  apply Array.ext'
  simp [ByteArray.data_extract]
  omega

theorem extract_one (s : ByteArray) (i : Nat) (h : i < s.size) : s.extract i (i + 1) = ⟨#[s[i]]⟩ := by
  apply ByteArray.ext
  apply Array.ext'
  simp [ByteArray.data_extract]
  rw [List.take_add_one]
  simp [h]
  rfl

/-- What has been joined ahead of line k. -/
def joinedTo (s : ByteArray) (k : Nat) : ByteArray := s.extract 0 ((begs s).getD (k - 1) 0 - 1).toNat

theorem joined_step (s : ByteArray) (k : Nat) (h0 : 1 ≤ k) (h1 : k < (begs s).length) :
    (1 < k → (joinedTo s k ++ (⟨#[10]⟩ : ByteArray)) ++ s.extract ((begs s).getD (k - 1) 0).toNat ((begs s).getD k 0 - 1).toNat = joinedTo s (k + 1)) ∧
    (k = 1 → joinedTo s k ++ s.extract ((begs s).getD (k - 1) 0).toNat ((begs s).getD k 0 - 1).toNat = joinedTo s (k + 1)) := by
  have hb := begs_line s k h0 h1
  unfold joinedTo
  rw [Nat.add_sub_cancel]
  refine ⟨fun hk => ?_, fun hk => ?_⟩
  · have hlt := begs_lt s 0 (k - 1) (by omega) (by omega)
    have h3 := begs_mem s _ (getD_mem (begs s) 0 0 (by omega))
    have hm : (begs s).getD (k - 1) 0 ∈ begsTo s s.size := by
      have hl := begs_length s
      have e : (begs s).getD (k - 1) 0 = (begsTo s s.size).getD (k - 1) 0 := by unfold begs; exact getD_app_left _ _ _ _ (by omega)
      rw [e]
      exact getD_mem _ _ _ (by omega)
    rcases begsTo_ten s s.size _ hm with h4 | ⟨h4, h5⟩
    · omega
    generalize (begs s).getD (k - 1) 0 = x at *
    generalize (begs s).getD k 0 = y at *
    have e1 : (⟨#[10]⟩ : ByteArray) = s.extract (x - 1).toNat ((x - 1).toNat + 1) := by
      rw [extract_one s _ (by omega)]
      rw [getb s _ (by omega)] at h5
      have e2 : s[(x - 1).toNat] = 10 := UInt8.toNat_inj.1 (by rw [h5]; rfl)
      rw [e2]
    rw [e1, extract_app s _ _ (by omega) (by omega), show (x - 1).toNat + 1 = x.toNat by omega, extract_app s _ _ (by omega) (by omega)]
  · subst hk
    have e0 : (begs s).getD (1 - 1) 0 = 0 := by
      have hl := begs_length s
      obtain ⟨R, hR, _⟩ := begs_parts s 0 (by omega)
      rw [hR]
      rfl
    rw [e0] at *
    have := extract_app s 0 ((begs s).getD 1 0 - 1).toNat (by omega) (by omega)
    simp

theorem joined_end (s : ByteArray) : joinedTo s (begs s).length = s := by
  have hl := begs_length s
  have e : (begs s).getD ((begs s).length - 1) 0 = s.size + 1 := by
    unfold begs
    rw [getD_app_right _ _ _ _ (by simp)]
    simp
  unfold joinedTo
  rw [e, show ((s.size : Int) + 1 - 1).toNat = s.size by omega]
  exact ByteArray.extract_zero_size
theorem joined_start (s : ByteArray) : joinedTo s 1 = ⟨#[]⟩ := by
  have e0 : (begs s).getD (1 - 1) 0 = 0 := by
    obtain ⟨R, hR, _⟩ := begs_parts s 0 (by omega)
    rw [hR]
    rfl
  unfold joinedTo
  rw [e0]
  simp
  rfl
set_option maxRecDepth 100000 in
set_option maxHeartbeats 4000000 in
theorem joins_any (s : ByteArray) (hs : s.size ≤ 1048576) (w : World) :
    Calls Try.prog 7 #[.string s] w fun e w' => e = .returned (.bool true) ∧ Below w.heap.size w w' := by
  go_enter Try.func7, Try.ntmps7
  go_wp2_with (fail)
  refine (awake_any _).mono ?_
  rintro e w1 ⟨rfl, hb1⟩
  go_wp2_with (fail)
  refine (new_any s _ hs).mono ?_
  rintro e w2 ⟨b, g, cap, rfl, h2, hb2⟩
  have b2 := Lib.hid (bel_trans hb1 hb2)
  clear hb1 hb2
  by_cases hlong : (3000 : Int) < s.size
  · go_wp2
    go_ret
    exact ⟨rfl, b2.out⟩
  · go_wp2_with (go_at_call 14; refine (count_any h2 hs).mono ?_; rintro e w' ⟨rfl, rfl⟩)
    have hl := begs_length s
    have HE := Lib.hid (joined_end s)
    have HST := Lib.hid (joined_start s)
    have HJ := Lib.hid (joined_step s)
    have HN := Lib.hid (line_no_ten s)
    have HLF : Hid (∀ k : Nat, 1 ≤ k → k < (begs s).length → lineF s k = (s.extract ((begs s).getD (k - 1) 0).toNat ((begs s).getD k 0 - 1).toNat, 0)) := by
      refine Lib.hid fun k h0 h1 => ?_
      unfold lineF
      rw [if_neg (by omega), Int.toNat_natCast]
    generalize hn : (begs s).length = n at *
    have HL := Lib.hid hn
    clear hn
    have hl1 := hl.2.1
    have hl2 := hl.2.2
    clear hl
    go_loopw [5, 7] (fun all i wr => ∃ k : Nat, 1 ≤ k ∧ k ≤ n ∧ i = .int .i64 k ∧ all = .string (joinedTo s k) ∧ IsLines wr b s g cap (begs s) ∧ Below w.heap.size w wr) (fun _ i _ => n - (intOf i).toNat)
    case atStart => exact ⟨1, Nat.le_refl _, by omega, rfl, by rw [HST.out], h2, b2.out⟩
    case round =>
      obtain ⟨k, hk1, hk2, rfl, rfl, hw, hbw⟩ := hrel
      by_cases hlt : k < n
      · have HW := Lib.hid hw
        have HB := Lib.hid hbw
        clear hw hbw h2 b2
        have q1 : decide ((k : Int) ≤ n - 1) = true := decide_eq_true (by omega)
        have q2 : decide ((k : Int) ≤ 3001) = true := decide_eq_true (by omega)
        go_wp2_with (fail)
        refine (line_any HW.out hs k).mono ?_
        rw [HLF.out k hk1 hlt]
        rintro e w3 ⟨rfl, hb3⟩
        have HW3 := Lib.hid (HW.out.below hb3)
        have HB3 := Lib.hid (bel_trans HB.out hb3)
        clear hb3
        have HNk := Lib.hid (HN.out k hk1 hlt)
        have HJk := Lib.hid (HJ.out k hk1 hlt)
        have hjs : (joinedTo s k).size ≤ s.size := by unfold joinedTo; rw [ByteArray.size_extract]; omega
        have hus : (s.extract ((begs s).getD (k - 1) 0).toNat ((begs s).getD k 0 - 1).toNat).size ≤ s.size := by rw [ByteArray.size_extract]; omega
        generalize s.extract ((begs s).getD (k - 1) 0).toNat ((begs s).getD k 0 - 1).toNat = u at *
        go_wp2_with (fail)
        go_loop [10] (fun kv => ∃ j : Nat, j ≤ u.size ∧ kv = .int .i64 j) (fun kv => u.size - (intOf kv).toNat)
        case atStart => exact ⟨0, Nat.zero_le _, rfl⟩
        case round =>
          obtain ⟨j, hj, rfl⟩ := hrel
          by_cases hlt2 : j < u.size
          · have hne := HNk.out j hlt2
            have hneb : (((u[j]).toNat : Int) == 10) = false := beq_eq_false_iff_ne.2 hne
            clear hne
            go_wp2
            go_round
            case rel => exact ⟨j + 1, by omega, by go_num⟩
            case measure => simp [intOf]; omega
          · by_cases hk3 : k = 1
            · have HK := Lib.hid hk3
              have q3 : decide ((1 : Int) < k) = false := decide_eq_false (by omega)
              clear hk3
              go_wp2
              go_roundw
              case rel => exact ⟨k + 1, by omega, by omega, by go_num, by rw [HJk.out.2 HK.out], HW3.out, HB3.out⟩
              case measure => simp [intOf]; omega
            · have q3 : decide ((1 : Int) < k) = true := decide_eq_true (by omega)
              have hk4 : 1 < k := by omega
              clear hk3
              go_wp2
              go_roundw
              case rel => exact ⟨k + 1, by omega, by omega, by go_num, by rw [HJk.out.1 hk4], HW3.out, HB3.out⟩
              case measure => simp [intOf]; omega
      · obtain rfl : k = n := by omega
        have q1 : decide ((k : Int) ≤ k - 1) = false := decide_eq_false (by omega)
        rw [HE.out]
        have HB := Lib.hid hbw
        clear hbw hw h2 b2
        go_wp2
        go_ret
        exact ⟨by simp, HB.out⟩
end Go.Proofs.Ytpncoliiimpgcaa
