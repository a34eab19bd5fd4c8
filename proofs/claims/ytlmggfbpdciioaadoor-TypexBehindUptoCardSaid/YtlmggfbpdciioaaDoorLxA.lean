/- lex: its small functions and closures, while, skip. -/
import Derived.Test.YtlmggfbpdciioaaDoorBase
import Derived.Test.YtlmggfbpdciioaaDoorShelf
import Derived.Test.YtlmggfbpdciioaaDoorLxP
namespace Go.Proofs.YtlmggfbpdciioaaDoor
open Go.RowKit
set_option linter.unusedVariables false

/-- A function value of bytes to bools. -/
def IsPred (g : Nat) (p : UInt8 → Bool) : Prop := ∀ (c : UInt8) (w : World), Calls Tryd.prog g #[.int .u8 (c.toNat : Int)] w fun e w' => e = .returned (.bool (p c)) ∧ w' = w

theorem ret_bool {a b : Bool} (h : a = b) : Ending.returned (.bool a) = .returned (.bool b) := by rw [h]
theorem all_bytes (P : UInt8 → Prop) (h : ∀ n : Fin 256, P (UInt8.ofNat n.1)) (c : UInt8) : P c := by
  have := h ⟨c.toNat, c.toNat_lt⟩
  simpa using this
theorem letter_or (c : UInt8) : letterB c = (decide ((97 : Int) ≤ bits BinOp.or IntKind.u8 (c.toNat : Int) 32) && decide (bits BinOp.or IntKind.u8 (c.toNat : Int) 32 ≤ 122) || ((c.toNat : Int) == 95)) :=
  all_bytes (fun c => letterB c = (decide ((97 : Int) ≤ bits BinOp.or IntKind.u8 (c.toNat : Int) 32) && decide (bits BinOp.or IntKind.u8 (c.toNat : Int) 32 ≤ 122) || ((c.toNat : Int) == 95))) (by decide +kernel) c
theorem digit_or (c : UInt8) : digitB c = (decide ((48 : Int) ≤ (c.toNat : Int)) && decide ((c.toNat : Int) ≤ 57)) :=
  all_bytes (fun c => digitB c = (decide ((48 : Int) ≤ (c.toNat : Int)) && decide ((c.toNat : Int) ≤ 57))) (by decide +kernel) c
theorem quote_or (c : UInt8) : quoteB c = (decide ((32 : Int) ≤ (c.toNat : Int)) && decide ((c.toNat : Int) ≤ 126) && ((c.toNat : Int) != 34)) :=
  all_bytes (fun c => quoteB c = (decide ((32 : Int) ≤ (c.toNat : Int)) && decide ((c.toNat : Int) ≤ 126) && ((c.toNat : Int) != 34))) (by decide +kernel) c
theorem line_or (c : UInt8) : lineB c = ((c.toNat : Int) != 10) :=
  all_bytes (fun c => lineB c = ((c.toNat : Int) != 10)) (by decide +kernel) c
theorem lay_or (c : UInt8) : layB c = decide ((0 : Int) ≤ Lib.indexByte [32, 9, 10, 13] c) :=
  all_bytes (fun c => layB c = decide ((0 : Int) ≤ Lib.indexByte [32, 9, 10, 13] c)) (by decide +kernel) c
theorem sym_or (c : UInt8) : decide (Lib.indexByte [40, 41, 123, 125, 91, 93, 44, 59, 46, 61, 60, 43, 45, 42, 33] c < 0) = !decide (c ∈ symsL) :=
  all_bytes (fun c => decide (Lib.indexByte [40, 41, 123, 125, 91, 93, 44, 59, 46, 61, 60, 43, 45, 42, 33] c < 0) = !decide (c ∈ symsL)) (by decide +kernel) c

theorem digit_is : IsPred 54 digitB := by
  intro c w
  have h : c.toNat < 256 := c.toNat_lt
  have hd := Lib.hid (digit_or c)
  go_enter Tryd.func54, Tryd.ntmps54
  go_wp2
  all_goals
    go_ret
    exact ⟨ret_bool (by rw [hd.out]; first | (simp [*]; done) | (simp [*]; omega)), rfl⟩
theorem letter_is : IsPred 52 letterB := by
  intro c w
  have h : c.toNat < 256 := c.toNat_lt
  have hd := Lib.hid (letter_or c)
  go_enter Tryd.func52, Tryd.ntmps52
  go_wp2
  · rename_i h1 h2
    go_ret
    exact ⟨ret_bool (by rw [hd.out, decide_eq_true h1]; simp), rfl⟩
  · rename_i h1 h2
    go_ret
    exact ⟨ret_bool (by rw [hd.out, decide_eq_true h1, decide_eq_true h2]; simp), rfl⟩
  · rename_i h1
    go_ret
    exact ⟨ret_bool (by rw [hd.out, decide_eq_false (by omega)]; simp), rfl⟩
theorem quote_is : IsPred 60 quoteB := by
  intro c w
  have h : c.toNat < 256 := c.toNat_lt
  have hd := Lib.hid (quote_or c)
  go_enter Tryd.func60, Tryd.ntmps60
  go_wp2
  all_goals
    go_ret
    exact ⟨ret_bool (by rw [hd.out]; first | (simp [*]; done) | (simp [*]; omega)), rfl⟩
theorem line_is : IsPred 51 lineB := by
  intro c w
  have h : c.toNat < 256 := c.toNat_lt
  have hd := Lib.hid (line_or c)
  go_enter Tryd.func51, Tryd.ntmps51
  go_wp2
  go_ret
  exact ⟨ret_bool (by rw [hd.out]), rfl⟩
theorem lay_is : IsPred 48 layB := by
  intro c w
  have h : c.toNat < 256 := c.toNat_lt
  have hd := Lib.hid (lay_or c)
  go_enter Tryd.func48, Tryd.ntmps48
  go_wp2_with (go_at_call 49; refine (Tryd.strings_IndexByte _ _ _).mono ?_; rintro e w' ⟨rfl, rfl⟩)
  go_ret
  exact ⟨ret_bool hd.out.symm, rfl⟩
theorem part_is : IsPred 53 partB := by
  intro c w
  have h : c.toNat < 256 := c.toNat_lt
  cases hl : letterB c
  all_goals
    have c1 := letter_is c w
    have c2 := digit_is c w
    rw [hl] at c1
    have hp := Lib.hid (show partB c = (letterB c || digitB c) from rfl)
    have hl' := Lib.hid hl
    clear hl
    go_enter Tryd.func53, Tryd.ntmps53
    go_wp2_with (first | (go_at_call 52; refine c1.mono ?_; rintro e w' ⟨rfl, rfl⟩) | (go_at_call 54; refine c2.mono ?_; rintro e w' ⟨rfl, rfl⟩))
    go_ret
    exact ⟨ret_bool (by rw [hp.out, hl'.out]; simp), rfl⟩

theorem drop_at (s : ByteArray) (k : Nat) (h : k < s.size) : s.data.toList.drop k = s[k] :: s.data.toList.drop (k + 1) := by
  rw [List.drop_eq_getElem_cons (by simpa using h)]; rfl
theorem drop_end (s : ByteArray) : s.data.toList.drop s.size = [] := by
  apply List.drop_eq_nil_of_le
  simp
theorem len_toList (s : ByteArray) : s.data.toList.length = s.size := by simp

/-- while: the place behind all bytes that are so. -/
theorem while_any (g : Nat) (p : UInt8 → Bool) (hp : IsPred g p) (eg : ∀ args w, (callFunc g args).run Tryd.prog w = .ok (.enter g args) w) (s : ByteArray) (hs : s.size ≤ 9223372036854775806) (a : Nat) (ha : a ≤ s.size) (w : World) :
    Calls Tryd.prog 47 #[.string s, .int .i64 (a : Int), .func (.func g) #[] #[]] w fun e w' => e = .returned (.int .i64 ((a + wh p (s.data.toList.drop a) : Nat) : Int)) ∧ w' = w := by
  obtain ⟨R, hR⟩ : ∃ R, R = a + wh p (s.data.toList.drop a) := ⟨_, rfl⟩
  rw [← hR]
  have HR := Lib.hid hR
  clear hR
  go_enter Tryd.func47, Tryd.ntmps47
  go_wp2
  go_loop [1] (fun i => ∃ k : Nat, i = .int .i64 (k : Int) ∧ k ≤ s.size ∧ R = k + wh p (s.data.toList.drop k)) (fun i => s.size - (intOf i).toNat)
  case atStart => exact ⟨a, rfl, ha, HR.out⟩
  case round =>
    obtain ⟨k, rfl, hk, hRk⟩ := hrel
    by_cases hlt : k < s.size
    · rw [drop_at s k hlt, wh_cons] at hRk
      have hc := hp s[k]
      cases hb : p s[k]
      · rw [hb] at hRk hc
        obtain rfl : R = k := by simpa using hRk
        have HB := Lib.hid hb
        clear hb hRk
        go_wp2_with (go_at_fn g; refine (hc _).mono ?_; rintro e w' ⟨rfl, rfl⟩)
        go_ret
        exact ⟨rfl, rfl⟩
      · rw [hb, if_pos rfl] at hRk
        rw [hb] at hc
        have HRk := Lib.hid hRk
        clear hb hRk
        go_wp2_with (go_at_fn g; refine (hc _).mono ?_; rintro e w' ⟨rfl, rfl⟩)
        go_round
        case rel => exact ⟨k + 1, by go_num, by omega, by have := HRk.out; omega⟩
        case measure => simp [intOf]; omega
    · have hke : k = s.size := by omega
      subst hke
      rw [drop_end] at hRk
      obtain rfl : R = s.size := by simpa [wh] using hRk
      clear hRk hk
      go_wp2
      go_ret
      exact ⟨rfl, rfl⟩

/-- skip: the place behind layout and comments. -/
theorem skip_any (s : ByteArray) (hs : s.size ≤ 9223372036854775806) (a : Nat) (ha : a ≤ s.size) (w : World) :
    Calls Tryd.prog 37 #[.string s, .int .i64 (a : Int)] w fun e w' => e = .returned (.int .i64 ((a + skipN false (s.data.toList.drop a) : Nat) : Int)) ∧ w' = w := by
  obtain ⟨R, hR⟩ : ∃ R, R = a + skipN false (s.data.toList.drop a) := ⟨_, rfl⟩
  rw [← hR]
  have HR := Lib.hid hR
  clear hR
  have e48 := enters_of Tryd.func48 (by kernel_rfl) rfl
  have e51 := enters_of Tryd.func51 (by kernel_rfl) rfl
  have W1 := Lib.hid (while_any 48 layB lay_is e48 s hs)
  have W2 := Lib.hid (while_any 51 lineB line_is e51 s hs)
  go_enter Tryd.func37, Tryd.ntmps37
  go_wp2
  go_loop [1] (fun i => ∃ k : Nat, i = .int .i64 (k : Int) ∧ k ≤ s.size ∧ R = k + skipN false (s.data.toList.drop k)) (fun i => s.size - (intOf i).toNat)
  case atStart => exact ⟨a, rfl, ha, HR.out⟩
  case round =>
    obtain ⟨k, rfl, hk, hRk⟩ := hrel
    have hl := wh_le layB (s.data.toList.drop k)
    rw [List.length_drop, len_toList] at hl
    have w1 := W1.out k hk w
    obtain ⟨k1, hk1⟩ : ∃ k1, k1 = k + wh layB (s.data.toList.drop k) := ⟨_, rfl⟩
    rw [← hk1] at w1
    have hd1 : s.data.toList.drop k1 = (s.data.toList.drop k).drop (wh layB (s.data.toList.drop k)) := by rw [List.drop_drop, hk1]
    have hk1s : k1 ≤ s.size := by omega
    have hk1k : k ≤ k1 := by omega
    have hx := Lib.extract_to_end s k1
    have c2 := Tryd.strings_HasPrefix (s.extract k1 s.size) ⟨#[47, 47]⟩ w
    rw [hx] at c2
    have hpre : Lib.hasPrefix (s.data.toList.drop k1) [47, 47] = true ↔ [47, 47] <+: s.data.toList.drop k1 := by
      unfold Lib.hasPrefix
      simp
    cases hh : Lib.hasPrefix (s.data.toList.drop k1) [47, 47]
    · have hRe : R = k1 := by
        rw [hRk, skip_end, hk1]
        rw [← hd1, ← hpre, hh]
        simp
      have c2' : Calls Tryd.prog 50 #[.string (s.extract k1 s.size), .string ⟨#[47, 47]⟩] w fun e w' => e = .returned (.bool false) ∧ w' = w := by
        rw [← hh]; exact c2
      subst hRe
      clear c2 hpre hh hRk hd1 hk1 hl hx HR
      go_wp2_with (first | (go_at_call 47; refine w1.mono ?_; rintro e w' ⟨rfl, rfl⟩) | (go_at_call 50; refine c2'.mono ?_; rintro e w' ⟨rfl, rfl⟩))
      go_ret
      exact ⟨rfl, rfl⟩
    · have hp := hpre.1 hh
      have c2' : Calls Tryd.prog 50 #[.string (s.extract k1 s.size), .string ⟨#[47, 47]⟩] w fun e w' => e = .returned (.bool true) ∧ w' = w := by
        rw [← hh]; exact c2
      have w2 := W2.out k1 hk1s w
      have hl2 := wh_le lineB (s.data.toList.drop k1)
      rw [List.length_drop, len_toList] at hl2
      have hpos : 1 ≤ wh lineB (s.data.toList.drop k1) := by
        obtain ⟨r, hr⟩ := hp
        rw [← hr]
        simp [wh_cons, lineB]
      have hRe : R = k1 + wh lineB (s.data.toList.drop k1) + skipN false (s.data.toList.drop (k1 + wh lineB (s.data.toList.drop k1))) := by
        rw [hRk, skip_wh_lay, ← hd1, skip_comment hp, List.drop_drop]
        omega
      obtain ⟨k2, hk2e⟩ : ∃ k2, k2 = k1 + wh lineB (s.data.toList.drop k1) := ⟨_, rfl⟩
      rw [← hk2e] at w2 hRe
      have HRe := Lib.hid hRe
      have hk2 : k < k2 := by omega
      have hk2s : k2 ≤ s.size := by omega
      clear c2 hpre hh hRk hd1 hk1 hl hx hRe hp hpos hl2 HR hk2e
      go_wp2_with (first | (go_at_call 47; refine w1.mono ?_; clear w1; rintro e w' ⟨rfl, rfl⟩) | (go_at_call 47; refine w2.mono ?_; clear w2; rintro e w' ⟨rfl, rfl⟩) | (go_at_call 50; refine c2'.mono ?_; clear c2'; rintro e w' ⟨rfl, rfl⟩))
      go_round
      case rel => exact ⟨k2, rfl, hk2s, HRe.out⟩
      case measure => simp [intOf]; omega
end Go.Proofs.YtlmggfbpdciioaaDoor
