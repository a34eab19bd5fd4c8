/- The document's token: what it hands back, by the plain side's words. -/
import Derived.Test.YtlmggfbpdciioaaDoorPRefx0
import Derived.Test.YtlmggfbpdciioaaDoorLxH
import Derived.Test.YtlmggfbpdciioaaDoorLxE
namespace Go.Proofs.YtlmggfbpdciioaaDoor
open Go.RowKit PRef Go.Proofs.YtlmggfbpdciioaaDoorW.PrintWords
set_option linter.unusedVariables false

theorem rletter_or (c : UInt8) : letterB c = ((decide ((97 : Int) ≤ (c.toNat : Int)) && decide ((c.toNat : Int) ≤ 122)) || (decide ((65 : Int) ≤ (c.toNat : Int)) && decide ((c.toNat : Int) ≤ 90)) || ((c.toNat : Int) == 95)) :=
  all_bytes (fun c => letterB c = ((decide ((97 : Int) ≤ (c.toNat : Int)) && decide ((c.toNat : Int) ≤ 122)) || (decide ((65 : Int) ≤ (c.toNat : Int)) && decide ((c.toNat : Int) ≤ 90)) || ((c.toNat : Int) == 95))) (by decide +kernel) c
theorem rletter_c : IsPred 39 letterB := by
  intro c w
  have h : c.toNat < 256 := c.toNat_lt
  have hd := Lib.hid (rletter_or c)
  go_enter Tryd.func39, Tryd.ntmps39
  go_wp2
  all_goals
    go_ret
    refine ⟨ret_bool ?_, rfl⟩
    rw [hd.out, Bool.eq_iff_iff]
    simp only [Bool.or_eq_true, Bool.and_eq_true, decide_eq_true_eq, beq_iff_eq, Bool.false_eq_true, true_iff, false_iff]
    omega
theorem rdigit_c : IsPred 40 digitB := by
  intro c w
  have h : c.toNat < 256 := c.toNat_lt
  have hd := Lib.hid (digit_or c)
  go_enter Tryd.func40, Tryd.ntmps40
  go_wp2
  all_goals
    go_ret
    exact ⟨ret_bool (by rw [hd.out]; first | (simp [*]; done) | (simp [*]; omega)), rfl⟩
theorem in_drop (c : UInt8) (s : ByteArray) (k : Nat) (h : k < s.size) : decide (c ∈ s.data.toList.drop k) = (decide (s[k] = c) || decide (c ∈ s.data.toList.drop (k + 1))) := by
  rw [drop_at s k h, Bool.eq_iff_iff]
  simp only [List.mem_cons, decide_eq_true_eq, Bool.or_eq_true]
  constructor
  · rintro (h | h)
    · exact .inl h.symm
    · exact .inr h
  · rintro (h | h)
    · exact .inl h.symm
    · exact .inr h
theorem rin_any (c : UInt8) (s : ByteArray) (hs : s.size ≤ 9223372036854775806) (w : World) : Calls Tryd.prog 41 #[.int .u8 (c.toNat : Int), .string s] w fun e w' => e = .returned (.bool (decide (c ∈ s.data.toList))) ∧ w' = w := by
  obtain ⟨R, hR⟩ : ∃ R, R = decide (c ∈ s.data.toList) := ⟨_, rfl⟩
  rw [← hR]
  have HR := Lib.hid hR
  clear hR
  go_enter Tryd.func41, Tryd.ntmps41
  go_wp2
  go_loop [5] (fun i => ∃ k : Nat, i = .int .i64 (k : Int) ∧ k ≤ s.size ∧ R = decide (c ∈ s.data.toList.drop k)) (fun i => s.size - (intOf i).toNat)
  case atStart => exact ⟨0, rfl, Nat.zero_le _, HR.out⟩
  case round =>
    obtain ⟨k, rfl, hk, hRk⟩ := hrel
    by_cases hlt : k < s.size
    · rw [in_drop c s k hlt] at hRk
      have HRK := Lib.hid hRk
      clear hRk
      have hq : ((s[k].toNat : Int) == (c.toNat : Int)) = decide (s[k] = c) := by
        rw [Bool.eq_iff_iff]
        simp only [beq_iff_eq, decide_eq_true_eq]
        constructor
        · intro h
          apply UInt8.toNat_inj.1
          omega
        · rintro rfl; rfl
      by_cases hc : s[k] = c
      · have hq' : ((s[k].toNat : Int) == (c.toNat : Int)) = true := by rw [hq]; simpa using hc
        have HC := Lib.hid hc
        clear hq hc
        go_wp2
        go_ret
        exact ⟨ret_bool (by rw [HRK.out, decide_eq_true HC.out]; rfl), rfl⟩
      · have hq' : ((s[k].toNat : Int) == (c.toNat : Int)) = false := by rw [hq]; simpa using hc
        have HC := Lib.hid hc
        clear hq hc
        go_wp2
        go_round
        case rel => exact ⟨k + 1, by go_num, by omega, by rw [HRK.out, decide_eq_false HC.out]; rfl⟩
        case measure => simp [intOf]; omega
    · have hke : k = s.size := by omega
      subst hke
      rw [drop_end] at hRk
      have HRK := Lib.hid hRk
      clear hRk hk
      go_wp2
      go_ret
      exact ⟨ret_bool (by rw [HRK.out]; simp), rfl⟩
theorem rin_c (c : UInt8) (w : World) : Calls Tryd.prog 41 #[.int .u8 (c.toNat : Int), .string ⟨#[40, 41, 123, 125, 91, 93, 44, 59, 46, 61, 60, 43, 45, 42, 33]⟩] w fun e w' => e = .returned (.bool (decide (c ∈ symsL))) ∧ w' = w :=
  rin_any c ⟨#[40, 41, 123, 125, 91, 93, 44, 59, 46, 61, 60, 43, 45, 42, 33]⟩ (by decide) w

theorem rname_c (s : ByteArray) (hs : s.size ≤ 9223372036854775806) (a : Nat) (ha : a ≤ s.size) (w : World) : Calls Tryd.prog 42 #[.string s, .int .i64 (a : Int)] w fun e w' => e = .returned (.int .i64 ((a + wh partB (s.data.toList.drop a) : Nat) : Int)) ∧ w' = w := by
  obtain ⟨R, hR⟩ : ∃ R, R = a + wh partB (s.data.toList.drop a) := ⟨_, rfl⟩
  rw [← hR]
  have HR := Lib.hid hR
  clear hR
  go_enter Tryd.func42, Tryd.ntmps42
  go_wp2
  go_loop [1] (fun i => ∃ k : Nat, i = .int .i64 (k : Int) ∧ k ≤ s.size ∧ R = k + wh partB (s.data.toList.drop k)) (fun i => s.size - (intOf i).toNat)
  case atStart => exact ⟨a, rfl, ha, HR.out⟩
  case round =>
    obtain ⟨k, rfl, hk, hRk⟩ := hrel
    by_cases hlt : k < s.size
    · rw [drop_at s k hlt, wh_cons] at hRk
      have hL := rletter_c s[k]
      have hD := rdigit_c s[k]
      unfold partB at hRk
      cases hl : letterB s[k] <;> cases hd : digitB s[k]
      all_goals
        rw [hl] at hL
        rw [hd] at hD
        rw [hl, hd] at hRk
        have HRK := Lib.hid hRk
        have HL := Lib.hid hL
        have HD := Lib.hid hD
        clear hRk hL hD hl hd
        go_wp2_with (first | (go_at_call 39; refine (HL.out _).mono ?_; rintro e w' ⟨rfl, rfl⟩) | (go_at_call 40; refine (HD.out _).mono ?_; rintro e w' ⟨rfl, rfl⟩))
      · go_ret
        have h := HRK.out
        simp at h
        subst h
        exact ⟨rfl, rfl⟩
      all_goals
        go_round
        case rel => exact ⟨k + 1, by go_num, by omega, by have h := HRK.out; simp at h; change R = k + 1 + wh partB _; have : wh partB (s.data.toList.drop (k + 1)) = wh (fun c => letterB c || digitB c) (s.data.toList.drop (k + 1)) := rfl; omega⟩
        case measure => simp [intOf]; omega
    · have hke : k = s.size := by omega
      subst hke
      rw [drop_end] at hRk
      obtain rfl : R = s.size := by simpa [wh] using hRk
      clear hRk hk
      go_wp2
      go_ret
      exact ⟨rfl, rfl⟩
theorem rnumber_c (s : ByteArray) (hs : s.size ≤ 9223372036854775806) (a : Nat) (ha : a ≤ s.size) (w : World) : Calls Tryd.prog 43 #[.string s, .int .i64 (a : Int)] w fun e w' => e = .returned (.int .i64 ((a + wh digitB (s.data.toList.drop a) : Nat) : Int)) ∧ w' = w := by
  obtain ⟨R, hR⟩ : ∃ R, R = a + wh digitB (s.data.toList.drop a) := ⟨_, rfl⟩
  rw [← hR]
  have HR := Lib.hid hR
  clear hR
  go_enter Tryd.func43, Tryd.ntmps43
  go_wp2
  go_loop [1] (fun i => ∃ k : Nat, i = .int .i64 (k : Int) ∧ k ≤ s.size ∧ R = k + wh digitB (s.data.toList.drop k)) (fun i => s.size - (intOf i).toNat)
  case atStart => exact ⟨a, rfl, ha, HR.out⟩
  case round =>
    obtain ⟨k, rfl, hk, hRk⟩ := hrel
    by_cases hlt : k < s.size
    · rw [drop_at s k hlt, wh_cons] at hRk
      have hD := rdigit_c s[k]
      cases hd : digitB s[k]
      all_goals
        rw [hd] at hD hRk
        have HRK := Lib.hid hRk
        have HD := Lib.hid hD
        clear hRk hD hd
        go_wp2_with (go_at_call 40; refine (HD.out _).mono ?_; rintro e w' ⟨rfl, rfl⟩)
      · go_ret
        have h := HRK.out
        simp at h
        subst h
        exact ⟨rfl, rfl⟩
      · go_round
        case rel => exact ⟨k + 1, by go_num, by omega, by have h := HRK.out; simp at h; omega⟩
        case measure => simp [intOf]; omega
    · have hke : k = s.size := by omega
      subst hke
      rw [drop_end] at hRk
      obtain rfl : R = s.size := by simpa [wh] using hRk
      clear hRk hk
      go_wp2
      go_ret
      exact ⟨rfl, rfl⟩
def qEnd (s : ByteArray) (a i : Nat) : Int := if ((s.data.toList.drop i).drop (wh quoteB (s.data.toList.drop i))).head? = some 34 ∧ i + wh quoteB (s.data.toList.drop i) - a - 1 ≤ 200 then ((i + wh quoteB (s.data.toList.drop i) + 1 : Nat) : Int) else -1
theorem rquoted_c (s : ByteArray) (hs : s.size ≤ 9223372036854775806) (a : Nat) (ha : a < s.size) (w : World) : Calls Tryd.prog 44 #[.string s, .int .i64 (a : Int)] w fun e w' => e = .returned (.int .i64 (qEnd s a (a + 1))) ∧ w' = w := by
  obtain ⟨R, hR⟩ : ∃ R, R = qEnd s a (a + 1) := ⟨_, rfl⟩
  rw [← hR]
  have HR := Lib.hid hR
  clear hR
  go_enter Tryd.func44, Tryd.ntmps44
  go_wp2
  go_loop [5] (fun i => ∃ k : Nat, i = .int .i64 (k : Int) ∧ a < k ∧ k ≤ s.size ∧ R = qEnd s a k) (fun i => s.size - (intOf i).toNat)
  case atStart => exact ⟨a + 1, by go_num, by omega, by omega, HR.out⟩
  case round =>
    obtain ⟨k, rfl, hak, hk, hRk⟩ := hrel
    by_cases hlt : k < s.size
    · unfold qEnd at hRk
      rw [drop_at s k hlt, wh_cons] at hRk
      have hq := quote_int s[k]
      have h34 : ((s[k].toNat : Int) = 34) ↔ s[k] = 34 := byte_eq_iff s[k] 34 (by omega)
      by_cases e : (s[k].toNat : Int) = 34
      · rw [if_neg (fun h => (hq.1 h).1 e), List.drop_zero, h34.1 e, List.head?_cons] at hRk
        simp only [Nat.add_zero, true_and] at hRk
        have e' : ((s[k].toNat : Int) == 34) = true := by simpa using e
        clear hq h34 e
        by_cases h2 : k - a - 1 ≤ 200
        · rw [if_pos h2] at hRk
          have h2' : ¬ (200 : Int) < (k : Int) - (a : Int) - 1 := by omega
          subst hRk
          clear h2
          go_wp2
          go_ret
          exact ⟨rfl, rfl⟩
        · rw [if_neg h2] at hRk
          have h2' : (200 : Int) < (k : Int) - (a : Int) - 1 := by omega
          subst hRk
          clear h2
          go_wp2
          go_ret
          exact ⟨rfl, rfl⟩
      · have e' : ((s[k].toNat : Int) == 34) = false := by simpa using e
        have hno : ¬ (some s[k] = some (34 : UInt8)) := by
          intro h
          injection h with h
          exact e (h34.2 h)
        by_cases e2 : (s[k].toNat : Int) < 32
        · rw [if_neg (fun h => (hq.1 h).2.1 e2), List.drop_zero, List.head?_cons, if_neg (fun h => hno h.1)] at hRk
          subst hRk
          clear hq h34 e hno
          go_wp2
          go_ret
          exact ⟨rfl, rfl⟩
        · by_cases e3 : (126 : Int) < (s[k].toNat : Int)
          · rw [if_neg (fun h => (hq.1 h).2.2 e3), List.drop_zero, List.head?_cons, if_neg (fun h => hno h.1)] at hRk
            subst hRk
            clear hq h34 e hno
            go_wp2
            go_ret
            exact ⟨rfl, rfl⟩
          · rw [if_pos (hq.2 ⟨e, e2, e3⟩), List.drop_succ_cons] at hRk
            have hRk' : R = qEnd s a (k + 1) := by
              rw [hRk]
              unfold qEnd
              have e1 : k + 1 + wh quoteB (s.data.toList.drop (k + 1)) = k + (wh quoteB (s.data.toList.drop (k + 1)) + 1) := by omega
              rw [e1]
            have HRK := Lib.hid hRk'
            clear hq h34 e hno hRk hRk'
            go_wp2
            go_round
            case rel => exact ⟨k + 1, by go_num, by omega, by omega, HRK.out⟩
            case measure => simp [intOf]; omega
    · have hke : k = s.size := by omega
      subst hke
      unfold qEnd at hRk
      rw [drop_end, if_neg (by simp)] at hRk
      subst hRk
      clear hk
      go_wp2
      go_ret
      exact ⟨rfl, rfl⟩
theorem rword_c (s : ByteArray) (w : World) : Calls Tryd.prog 19 #[.string s] w fun e w' => e = .returned (.bool (wordB s.data.toList)) ∧ Below w.heap.size w w' :=
  quoinref02_Word.calls 20 s _ w (rword s 20 (Nat.le_refl _))

/-- What it hands back. -/
def rkd (r : Nat × Nat × Nat) : Nat := if r.2.2 = 1 then 0 else r.1
def ren (r : Nat × Nat × Nat) (a : Nat) : Int := if r.2.2 = 3 then -1 else if r.2.2 = 1 then 0 else ((a + r.2.1 : Nat) : Int)
def RPost (r : Nat × Nat × Nat) (a : Nat) (w : World) (e : Ending) (w' : World) : Prop :=
  e = .returned (.tuple #[.agg #[.int .i64 (rkd r : Int), .int .i64 (a : Int), .int .i64 (ren r a), .string ⟨#[]⟩], .int .i64 (r.2.2 : Int)]) ∧ Below w.heap.size w w'
theorem rtok_end {r : Nat × Nat × Nat} {a : Nat} {w W : World} {act : Act} {h : Nat} {v0 v1 v2 v3 x : Value} (hR : W.heap[h]? = some (.cells #[v0, v1, v2, v3] 31 (0, 0))) (hp : act.tmps.getD 4 undef = .pointer (some ⟨h, 0, none⟩)) (hu : act.tmps.getD 5 undef = x) (hd : act.defers = [])
    (h0 : v0 = .int .i64 (rkd r : Int)) (h1 : v1 = .int .i64 (a : Int)) (h2 : v2 = .int .i64 (ren r a)) (h3 : v3 = .string ⟨#[]⟩) (hx : x = .int .i64 (r.2.2 : Int)) (hb : Below w.heap.size w W) :
    bodyPost Tryd.prog Tryd.f28 (RPost r a w) .ret act W := by
  subst h0 h1 h2 h3 hx
  exact tok_end rfl hR hp hu hd ⟨rfl, hb⟩

end Go.Proofs.YtlmggfbpdciioaaDoor
