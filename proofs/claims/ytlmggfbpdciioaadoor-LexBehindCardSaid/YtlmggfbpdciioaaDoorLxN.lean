/- LexBehind. -/
import Derived.Test.YtlmggfbpdciioaaDoorLxM
namespace Go.Proofs.YtlmggfbpdciioaaDoor
open Go.RowKit PRef Go.Proofs.YtlmggfbpdciioaaDoorW.PrintWords
set_option linter.unusedVariables false
set_option linter.unusedSimpArgs false

set_option maxRecDepth 100000 in
set_option maxHeartbeats 4000000 in
theorem behind_err_true (s : ByteArray) (n : Int) (m fa fc : Nat) (hn : n < 0) (hmod : Int.tmod (-(n + 1)) 50 = (m : Int)) (hfc : fc ≠ 0) (hfa : fa ≤ 140737488351232) (hm : m < 50) (h1 : -9223372036854775808 ≤ n) (h2 : n ≤ 9223372036854775807) (w : World) (ht : Tab w) (hs : s.size ≤ 140737488351232)
    (H1 : Hid (∀ w, Tab w → Calls Tryd.prog 15 #[.string s] w fun r W => ∃ A c, r = .returned (.tuple #[.slice A 0 c, .agg #[.int .i64 (fa : Int), .int .i64 (fc : Int)]]) ∧ Below w.heap.size w W))
    (H2 : Hid (∀ w, Tab w → Calls Tryd.prog 15 #[.string (nl m ++ s)] w fun r W => ∃ A c, r = .returned (.tuple #[.slice A 0 c, .agg #[.int .i64 ((fa : Int) + (m : Int)), .int .i64 (fc : Int)]]) ∧ Below w.heap.size w W)) :
    Calls Tryd.prog 7 #[.string s, .int .i64 n] w fun e w' => e = .returned (.bool true) ∧ Below w.heap.size w w' := by
  have H0 := Lib.hid (awake_any w ht)
  have HT := Lib.hid ht
  have HM := Lib.hid hm
  have hne : ¬ (fa = 0 ∧ fc = 0) := fun h => hfc h.2
  have b3 : (0 : Int) ≤ (fa : Int) := by omega
  have b4 : (fa : Int) ≤ 140737488351232 := by omega
  have b5 : (m : Int) < 50 := by omega
  have b6 : (0 : Int) ≤ (m : Int) := by omega
  have b7 : (nl m).size + s.size ≤ 9223372036854775807 := by rw [nl_size]; omega
  have b8 : ¬ 9223372036854775807 < (nl m).size + s.size := by omega
  clear ht hm
  go_enter Tryd.func7, Tryd.ntmps7
  go_wp2_with (fail)
  refine H0.out.mono ?_
  rintro e1 w1 ⟨rfl, hb1⟩
  have HB1 := Lib.hid hb1
  have HT1 := Lib.hid (HT.out.later hb1)
  clear hb1
  go_wp2_with (fail)
  go_loopg [6, 7] m (fun kq v6 v7 w' => ∃ (i : Nat), v6 = .string (nl i) ∧ v7 = .int .i64 (i : Int) ∧ Hid (kq + i = m) ∧ w' = w1)
  case atStart => exact ⟨0, rfl, rfl, Lib.hid rfl, rfl⟩
  case round =>
    obtain ⟨i, rfl, rfl, HI, rfl⟩ := hrel
    by_cases hi : i < m
    · obtain ⟨gk, rfl⟩ : ∃ q, gk = q + 1 := ⟨gk - 1, by have := HI.out; omega⟩
      have r1 : decide ((i : Int) < (m : Int)) = true := decide_eq_true (by omega)
      have r2 : (nl i).size + 1 ≤ 9223372036854775807 := by rw [nl_size]; have := HM.out; omega
      have r3 : ¬ 9223372036854775807 < (nl i).size + 1 := by omega
      have r4 : (i : Int) < 50 := by have := HM.out; omega
      have r5 : (0 : Int) ≤ (i : Int) := by omega
      go_wp2_with (fail)
      go_roundg gk
      case measure => omega
      case rel => exact ⟨i + 1, rfl, rfl, Lib.hid (by have := HI.out; omega), rfl⟩
    · have hi2 : i = m := by have := HI.out; omega
      subst hi2
      have r1 : decide ((i : Int) < (i : Int)) = false := decide_eq_false (by omega)
      go_wp2_with (fail)
      refine (H1.out _ HT1.out).mono ?_
      rintro e2 w2 ⟨A, c, rfl, hb2⟩
      have HB2 := Lib.hid (bel_alloc (bel_trans HB1.out hb2) (.cells #[.int .i64 (fa : Int), .int .i64 (fc : Int)] 25))
      have HD2 := Lib.hid (blk_new w2 (.cells #[.int .i64 (fa : Int), .int .i64 (fc : Int)] 25))
      clear hb2
      go_wp2_with (fail)
      refine (H2.out _ (HT.out.later HB2.out)).mono ?_
      rintro e3 w3 ⟨B, cb, rfl, hb3⟩
      have HB3 := Lib.hid (bel_alloc (bel_trans HB2.out hb3) (.cells #[.int .i64 ((fa : Int) + (i : Int)), .int .i64 (fc : Int)] 25))
      have hk := blk_alloc (blk_later hb3 HD2.out) (.cells #[.int .i64 ((fa : Int) + (i : Int)), .int .i64 (fc : Int)] 25)
      have hk2 := blk_new w3 (.cells #[.int .i64 ((fa : Int) + (i : Int)), .int .i64 (fc : Int)] 25)
      have x0 := (blk_cell hk 0).trans rfl
      have x1 := (blk_cell hk 1).trans rfl
      have y0 := (blk_cell hk2 0).trans rfl
      have y1 := (blk_cell hk2 1).trans rfl
      clear hb3 hk hk2
      go_wp2_with (fail)
      go_ret
      exact ⟨by first | rfl | (simp [Act.eval]; done) | (simp [Act.eval]; omega), HB3.out⟩

set_option maxRecDepth 100000 in
set_option maxHeartbeats 4000000 in
theorem behind_err_false (s : ByteArray) (n : Int) (m fa fc : Nat) (hn : ¬ n < 0) (hmod : Int.tmod n 50 = (m : Int)) (hfc : fc ≠ 0) (hfa : fa ≤ 140737488351232) (hm : m < 50) (h1 : -9223372036854775808 ≤ n) (h2 : n ≤ 9223372036854775807) (w : World) (ht : Tab w) (hs : s.size ≤ 140737488351232)
    (H1 : Hid (∀ w, Tab w → Calls Tryd.prog 15 #[.string s] w fun r W => ∃ A c, r = .returned (.tuple #[.slice A 0 c, .agg #[.int .i64 (fa : Int), .int .i64 (fc : Int)]]) ∧ Below w.heap.size w W))
    (H2 : Hid (∀ w, Tab w → Calls Tryd.prog 15 #[.string (nl m ++ s)] w fun r W => ∃ A c, r = .returned (.tuple #[.slice A 0 c, .agg #[.int .i64 ((fa : Int) + (m : Int)), .int .i64 (fc : Int)]]) ∧ Below w.heap.size w W)) :
    Calls Tryd.prog 7 #[.string s, .int .i64 n] w fun e w' => e = .returned (.bool true) ∧ Below w.heap.size w w' := by
  have H0 := Lib.hid (awake_any w ht)
  have HT := Lib.hid ht
  have HM := Lib.hid hm
  have hne : ¬ (fa = 0 ∧ fc = 0) := fun h => hfc h.2
  have b3 : (0 : Int) ≤ (fa : Int) := by omega
  have b4 : (fa : Int) ≤ 140737488351232 := by omega
  have b5 : (m : Int) < 50 := by omega
  have b6 : (0 : Int) ≤ (m : Int) := by omega
  have b7 : (nl m).size + s.size ≤ 9223372036854775807 := by rw [nl_size]; omega
  have b8 : ¬ 9223372036854775807 < (nl m).size + s.size := by omega
  clear ht hm
  go_enter Tryd.func7, Tryd.ntmps7
  go_wp2_with (fail)
  refine H0.out.mono ?_
  rintro e1 w1 ⟨rfl, hb1⟩
  have HB1 := Lib.hid hb1
  have HT1 := Lib.hid (HT.out.later hb1)
  clear hb1
  go_wp2_with (fail)
  go_loopg [6, 7] m (fun kq v6 v7 w' => ∃ (i : Nat), v6 = .string (nl i) ∧ v7 = .int .i64 (i : Int) ∧ Hid (kq + i = m) ∧ w' = w1)
  case atStart => exact ⟨0, rfl, rfl, Lib.hid rfl, rfl⟩
  case round =>
    obtain ⟨i, rfl, rfl, HI, rfl⟩ := hrel
    by_cases hi : i < m
    · obtain ⟨gk, rfl⟩ : ∃ q, gk = q + 1 := ⟨gk - 1, by have := HI.out; omega⟩
      have r1 : decide ((i : Int) < (m : Int)) = true := decide_eq_true (by omega)
      have r2 : (nl i).size + 1 ≤ 9223372036854775807 := by rw [nl_size]; have := HM.out; omega
      have r3 : ¬ 9223372036854775807 < (nl i).size + 1 := by omega
      have r4 : (i : Int) < 50 := by have := HM.out; omega
      have r5 : (0 : Int) ≤ (i : Int) := by omega
      go_wp2_with (fail)
      go_roundg gk
      case measure => omega
      case rel => exact ⟨i + 1, rfl, rfl, Lib.hid (by have := HI.out; omega), rfl⟩
    · have hi2 : i = m := by have := HI.out; omega
      subst hi2
      have r1 : decide ((i : Int) < (i : Int)) = false := decide_eq_false (by omega)
      go_wp2_with (fail)
      refine (H1.out _ HT1.out).mono ?_
      rintro e2 w2 ⟨A, c, rfl, hb2⟩
      have HB2 := Lib.hid (bel_alloc (bel_trans HB1.out hb2) (.cells #[.int .i64 (fa : Int), .int .i64 (fc : Int)] 25))
      have HD2 := Lib.hid (blk_new w2 (.cells #[.int .i64 (fa : Int), .int .i64 (fc : Int)] 25))
      clear hb2
      go_wp2_with (fail)
      refine (H2.out _ (HT.out.later HB2.out)).mono ?_
      rintro e3 w3 ⟨B, cb, rfl, hb3⟩
      have HB3 := Lib.hid (bel_alloc (bel_trans HB2.out hb3) (.cells #[.int .i64 ((fa : Int) + (i : Int)), .int .i64 (fc : Int)] 25))
      have hk := blk_alloc (blk_later hb3 HD2.out) (.cells #[.int .i64 ((fa : Int) + (i : Int)), .int .i64 (fc : Int)] 25)
      have hk2 := blk_new w3 (.cells #[.int .i64 ((fa : Int) + (i : Int)), .int .i64 (fc : Int)] 25)
      have x0 := (blk_cell hk 0).trans rfl
      have x1 := (blk_cell hk 1).trans rfl
      have y0 := (blk_cell hk2 0).trans rfl
      have y1 := (blk_cell hk2 1).trans rfl
      clear hb3 hk hk2
      go_wp2_with (fail)
      go_ret
      exact ⟨by first | rfl | (simp [Act.eval]; done) | (simp [Act.eval]; omega), HB3.out⟩

end Go.Proofs.YtlmggfbpdciioaaDoor
