/- LexBehind. -/
import Derived.Test.YtlmggfbpdciioaaDoorLxN
namespace Go.Proofs.YtlmggfbpdciioaaDoor
open Go.RowKit PRef Go.Proofs.YtlmggfbpdciioaaDoorW.PrintWords
set_option linter.unusedVariables false
set_option linter.unusedSimpArgs false

set_option maxRecDepth 100000 in
set_option maxHeartbeats 8000000 in
theorem behind_none_true (s : ByteArray) (n : Int) (m : Nat) (hn : n < 0) (hmod : Int.tmod (-(n + 1)) 50 = (m : Int)) (hm : m < 50) (h1 : -9223372036854775808 ≤ n) (h2 : n ≤ 9223372036854775807) (w : World) (ht : Tab w) (hs : s.size ≤ 140737488351232)
    (L M K : List S31) (hL : L.length ≤ 4001) (hM : M.length = L.length) (k : Nat) (hA : quoinlaw02_alike.f k K L = some true)
    (hX : ∀ j, j < L.length → ∃ kd a z : Nat, a ≤ 140737488351232 ∧ z ≤ 140737488351232 ∧ (rd_T31 L (j : Int)).f0 = (kd : Int) ∧ (rd_T31 L (j : Int)).f1 = (a : Int) ∧ (rd_T31 L (j : Int)).f2 = (z : Int) ∧ (rd_T31 M (j : Int)).f0 = (kd : Int) ∧ (rd_T31 M (j : Int)).f1 = (a : Int) + (m : Int) ∧ (rd_T31 M (j : Int)).f2 = (z : Int) + (m : Int))
    (H1 : Hid (∀ w, Tab w → Calls Tryd.prog 15 #[.string s] w fun r W => ∃ A c, r = .returned (.tuple #[.slice A L.length c, .agg #[.int .i64 0, .int .i64 0]]) ∧ L.length ≤ c ∧ Kd.C k31 W A L.length L ∧ Below w.heap.size w W))
    (H2 : Hid (∀ w, Tab w → Calls Tryd.prog 15 #[.string (nl m ++ s)] w fun r W => ∃ A c, r = .returned (.tuple #[.slice A M.length c, .agg #[.int .i64 0, .int .i64 0]]) ∧ M.length ≤ c ∧ Kd.C k31 W A M.length M ∧ Below w.heap.size w W))
    (H3 : Hid (∀ w, Tab w → Calls Tryd.prog 15 #[.string (s ++ ⟨#[10, 47, 47, 32, 34]⟩)] w fun r W => ∃ A c, r = .returned (.tuple #[.slice A K.length c, .agg #[.int .i64 0, .int .i64 0]]) ∧ K.length ≤ c ∧ Kd.C k31 W A K.length K ∧ Below w.heap.size w W)) :
    Calls Tryd.prog 7 #[.string s, .int .i64 n] w fun e w' => e = .returned (.bool true) ∧ Below w.heap.size w w' := by
  have H0 := Lib.hid (awake_any w ht)
  have HT := Lib.hid ht
  have HM := Lib.hid hm
  have HL4 := Lib.hid hL
  have HMl := Lib.hid hM
  have HA := Lib.hid hA
  have HX := Lib.hid hX
  have b5 : (m : Int) < 50 := by omega
  have b6 : (0 : Int) ≤ (m : Int) := by omega
  have b7 : (nl m).size + s.size ≤ 9223372036854775807 := by rw [nl_size]; omega
  have b8 : ¬ 9223372036854775807 < (nl m).size + s.size := by omega
  have b9 : s.size + 5 ≤ 9223372036854775807 := by omega
  have b10 : ¬ 9223372036854775807 < s.size + 5 := by omega
  clear ht hm hL hM hA hX
  go_enter Tryd.func7, Tryd.ntmps7
  go_wp2_with (fail)
  refine H0.out.mono ?_
  rintro e1 w1 ⟨rfl, hb1⟩
  have HB1 := Lib.hid hb1
  have HT1 := Lib.hid (HT.out.later hb1)
  clear hb1
  go_wp2_with (fail)
  go_loopg [6, 7] m (fun kq v6 v7 w' => ∃ (i : Nat), v6 = .string (nl i) ∧ v7 = .int .i64 (i : Int) ∧ Hid (kq + i = m) ∧ w' = w1)
  case atStart => exact ⟨0, rfl, rfl, Lib.hid rfl, rfl⟩
  case round =>
    obtain ⟨i, rfl, rfl, HI, rfl⟩ := hrel
    by_cases hi : i < m
    · obtain ⟨gk, rfl⟩ : ∃ q, gk = q + 1 := ⟨gk - 1, by have := HI.out; omega⟩
      have r1 : decide ((i : Int) < (m : Int)) = true := decide_eq_true (by omega)
      have r2 : (nl i).size + 1 ≤ 9223372036854775807 := by rw [nl_size]; have := HM.out; omega
      have r3 : ¬ 9223372036854775807 < (nl i).size + 1 := by omega
      have r4 : (i : Int) < 50 := by have := HM.out; omega
      have r5 : (0 : Int) ≤ (i : Int) := by omega
      go_wp2_with (fail)
      go_roundg gk
      case measure => omega
      case rel => exact ⟨i + 1, rfl, rfl, Lib.hid (by have := HI.out; omega), rfl⟩
    · have hi2 : i = m := by have := HI.out; omega
      subst hi2
      have r1 : decide ((i : Int) < (i : Int)) = false := decide_eq_false (by omega)
      go_wp2_with (fail)
      refine (H1.out _ HT1.out).mono ?_
      rintro e2 w2 ⟨A, c, rfl, hc, hC, hb2⟩
      have HB2 := Lib.hid (bel_alloc (bel_trans HB1.out hb2) (.cells #[.int .i64 0, .int .i64 0] 25))
      have HD2 := Lib.hid (blk_new w2 (.cells #[.int .i64 0, .int .i64 0] 25))
      have HL2 := Lib.hid (Kd.C_below hC (bel_alloc (Below.refl _ _) (.cells #[.int .i64 0, .int .i64 0] 25)))
      have HLC := Lib.hid hc
      clear hc hC hb2
      go_wp2_with (fail)
      refine (H2.out _ (HT.out.later HB2.out)).mono ?_
      rintro e3 w3 ⟨B, cb, rfl, hc, hC, hb3⟩
      have HB3 := Lib.hid (bel_alloc (bel_trans HB2.out hb3) (.cells #[.int .i64 0, .int .i64 0] 25))
      have HL3 := Lib.hid (Kd.C_below HL2.out (bel_alloc hb3 (.cells #[.int .i64 0, .int .i64 0] 25)))
      have HM3 := Lib.hid (Kd.C_below hC (bel_alloc (Below.refl _ _) (.cells #[.int .i64 0, .int .i64 0] 25)))
      have HMC := Lib.hid hc
      have hk := blk_alloc (blk_later hb3 HD2.out) (.cells #[.int .i64 0, .int .i64 0] 25)
      have HE3 := Lib.hid (blk_new w3 (.cells #[.int .i64 0, .int .i64 0] 25))
      have x0 := (blk_cell hk 0).trans rfl
      have x1 := (blk_cell hk 1).trans rfl
      clear hc hC hb3 hk
      go_wp2_with (fail)
      clear x0 x1
      refine (H3.out _ (HT.out.later HB3.out)).mono ?_
      rintro e4 w4 ⟨C, cc, rfl, hc, hC, hb4⟩
      have HB4 := Lib.hid (bel_alloc (bel_trans HB3.out hb4) (.cells #[.int .i64 0, .int .i64 0] 25))
      have HL4' := Lib.hid (Kd.C_below HL3.out (bel_alloc hb4 (.cells #[.int .i64 0, .int .i64 0] 25)))
      have HM4 := Lib.hid (Kd.C_below HM3.out (bel_alloc hb4 (.cells #[.int .i64 0, .int .i64 0] 25)))
      have HN4 := Lib.hid (Kd.C_below hC (bel_alloc (Below.refl _ _) (.cells #[.int .i64 0, .int .i64 0] 25)))
      have HNC := Lib.hid hc
      have HE4 := Lib.hid (blk_alloc (blk_later hb4 HE3.out) (.cells #[.int .i64 0, .int .i64 0] 25))
      have HF4 := Lib.hid (blk_new w4 (.cells #[.int .i64 0, .int .i64 0] 25))
      clear hc hC hb4
      go_wp2_with (fail)
      refine (quoinlaw02_alike.calls k _ _ K _ _ L true _ HN4.out HNC.out HL4'.out HLC.out HA.out).mono ?_
      rintro e5 w5 ⟨rfl, hd5⟩
      have HB5 := Lib.hid (bel_trans HB4.out hd5.below)
      have HL5 := Lib.hid (Kd.C_below HL4'.out hd5.below)
      have HM5 := Lib.hid (Kd.C_below HM4.out hd5.below)
      have hk := blk_later hd5.below HE4.out
      have hk2 := blk_later hd5.below HF4.out
      have x0 := (blk_cell hk 0).trans rfl
      have x1 := (blk_cell hk 1).trans rfl
      have y0 := (blk_cell hk2 0).trans rfl
      have y1 := (blk_cell hk2 1).trans rfl
      have hml : M.length = L.length := HMl.out
      clear hd5 hk hk2
      go_wp2_with (fail)
      clear x0 x1 y0 y1
      go_loopg [15] L.length (fun kq v15 w' => ∃ (j : Nat), v15 = .int .i64 (j : Int) ∧ Hid (kq + j = L.length) ∧ Hid (Below w.heap.size w w' ∧ Kd.C k31 w' A L.length L ∧ Kd.C k31 w' B M.length M))
      case atStart => exact ⟨0, rfl, Lib.hid rfl, Lib.hid ⟨HB5.out, HL5.out, HM5.out⟩⟩
      case round =>
        obtain ⟨j, rfl, HJ, HW⟩ := hrel
        have hl4 := HL4.out
        by_cases hj : j < L.length
        · obtain ⟨gk, rfl⟩ : ∃ q, gk = q + 1 := ⟨gk - 1, by have := HJ.out; omega⟩
          obtain ⟨kd, a, z, ha, hz, l0, l1, l2, m0, m1, m2⟩ := HX.out j hj
          obtain ⟨ad, e, x0, x1, x2, x3⟩ := at_T31 HW.out.2.1 (j : Int) (by omega) (by omega)
          obtain ⟨bd, e', y0, y1, y2, y3⟩ := at_T31 HW.out.2.2 (j : Int) (by omega) (by omega)
          rw [Int.toNat_natCast] at x0 x1 x2 x3 y0 y1 y2 y3
          rw [l0] at x0
          rw [l1] at x1
          rw [l2] at x2
          rw [m0] at y0
          rw [m1] at y1
          rw [m2] at y2
          cases e
          cases e'
          have r1 : decide ((j : Int) < ((L.length : Nat) : Int)) = true := decide_eq_true (by omega)
          have r2 : (j : Int) < ((M.length : Nat) : Int) := by omega
          have r3 : (j : Int) < ((L.length : Nat) : Int) := by omega
          have r4 : (0 : Int) ≤ (j : Int) := by omega
          have r5 : (j : Int) ≤ 4001 := by omega
          have r6 : (a : Int) ≤ 140737488351232 := by omega
          have r7 : (0 : Int) ≤ (a : Int) := by omega
          have r8 : (z : Int) ≤ 140737488351232 := by omega
          have r9 : (0 : Int) ≤ (z : Int) := by omega
          clear l0 l1 l2 m0 m1 m2 x3 y3 ha hz
          go_wp2_with (fail)
          go_quiet (fail)
          go_wp2_with (fail)
          go_roundg gk
          case measure => omega
          case rel => exact ⟨j + 1, rfl, Lib.hid (by have := HJ.out; omega), Lib.hid ⟨bel_trans HW.out.1 (Drawn0.mk ⟨nq, rfl⟩ : Drawn0 _ _).below, Kd.C_below HW.out.2.1 (Drawn0.mk ⟨nq, rfl⟩ : Drawn0 _ _).below, Kd.C_below HW.out.2.2 (Drawn0.mk ⟨nq, rfl⟩ : Drawn0 _ _).below⟩⟩
        · have r1 : decide ((j : Int) < ((L.length : Nat) : Int)) = false := decide_eq_false (by omega)
          have HB6 := Lib.hid HW.out.1
          go_wp2_with (fail)
          go_ret
          exact ⟨by first | rfl | (simp [Act.eval]; done) | (simp [Act.eval]; omega), HB6.out⟩

set_option maxRecDepth 100000 in
set_option maxHeartbeats 8000000 in
theorem behind_none_false (s : ByteArray) (n : Int) (m : Nat) (hn : ¬ n < 0) (hmod : Int.tmod n 50 = (m : Int)) (hm : m < 50) (h1 : -9223372036854775808 ≤ n) (h2 : n ≤ 9223372036854775807) (w : World) (ht : Tab w) (hs : s.size ≤ 140737488351232)
    (L M K : List S31) (hL : L.length ≤ 4001) (hM : M.length = L.length) (k : Nat) (hA : quoinlaw02_alike.f k K L = some true)
    (hX : ∀ j, j < L.length → ∃ kd a z : Nat, a ≤ 140737488351232 ∧ z ≤ 140737488351232 ∧ (rd_T31 L (j : Int)).f0 = (kd : Int) ∧ (rd_T31 L (j : Int)).f1 = (a : Int) ∧ (rd_T31 L (j : Int)).f2 = (z : Int) ∧ (rd_T31 M (j : Int)).f0 = (kd : Int) ∧ (rd_T31 M (j : Int)).f1 = (a : Int) + (m : Int) ∧ (rd_T31 M (j : Int)).f2 = (z : Int) + (m : Int))
    (H1 : Hid (∀ w, Tab w → Calls Tryd.prog 15 #[.string s] w fun r W => ∃ A c, r = .returned (.tuple #[.slice A L.length c, .agg #[.int .i64 0, .int .i64 0]]) ∧ L.length ≤ c ∧ Kd.C k31 W A L.length L ∧ Below w.heap.size w W))
    (H2 : Hid (∀ w, Tab w → Calls Tryd.prog 15 #[.string (nl m ++ s)] w fun r W => ∃ A c, r = .returned (.tuple #[.slice A M.length c, .agg #[.int .i64 0, .int .i64 0]]) ∧ M.length ≤ c ∧ Kd.C k31 W A M.length M ∧ Below w.heap.size w W))
    (H3 : Hid (∀ w, Tab w → Calls Tryd.prog 15 #[.string (s ++ ⟨#[10, 47, 47, 32, 34]⟩)] w fun r W => ∃ A c, r = .returned (.tuple #[.slice A K.length c, .agg #[.int .i64 0, .int .i64 0]]) ∧ K.length ≤ c ∧ Kd.C k31 W A K.length K ∧ Below w.heap.size w W)) :
    Calls Tryd.prog 7 #[.string s, .int .i64 n] w fun e w' => e = .returned (.bool true) ∧ Below w.heap.size w w' := by
  have H0 := Lib.hid (awake_any w ht)
  have HT := Lib.hid ht
  have HM := Lib.hid hm
  have HL4 := Lib.hid hL
  have HMl := Lib.hid hM
  have HA := Lib.hid hA
  have HX := Lib.hid hX
  have b5 : (m : Int) < 50 := by omega
  have b6 : (0 : Int) ≤ (m : Int) := by omega
  have b7 : (nl m).size + s.size ≤ 9223372036854775807 := by rw [nl_size]; omega
  have b8 : ¬ 9223372036854775807 < (nl m).size + s.size := by omega
  have b9 : s.size + 5 ≤ 9223372036854775807 := by omega
  have b10 : ¬ 9223372036854775807 < s.size + 5 := by omega
  clear ht hm hL hM hA hX
  go_enter Tryd.func7, Tryd.ntmps7
  go_wp2_with (fail)
  refine H0.out.mono ?_
  rintro e1 w1 ⟨rfl, hb1⟩
  have HB1 := Lib.hid hb1
  have HT1 := Lib.hid (HT.out.later hb1)
  clear hb1
  go_wp2_with (fail)
  go_loopg [6, 7] m (fun kq v6 v7 w' => ∃ (i : Nat), v6 = .string (nl i) ∧ v7 = .int .i64 (i : Int) ∧ Hid (kq + i = m) ∧ w' = w1)
  case atStart => exact ⟨0, rfl, rfl, Lib.hid rfl, rfl⟩
  case round =>
    obtain ⟨i, rfl, rfl, HI, rfl⟩ := hrel
    by_cases hi : i < m
    · obtain ⟨gk, rfl⟩ : ∃ q, gk = q + 1 := ⟨gk - 1, by have := HI.out; omega⟩
      have r1 : decide ((i : Int) < (m : Int)) = true := decide_eq_true (by omega)
      have r2 : (nl i).size + 1 ≤ 9223372036854775807 := by rw [nl_size]; have := HM.out; omega
      have r3 : ¬ 9223372036854775807 < (nl i).size + 1 := by omega
      have r4 : (i : Int) < 50 := by have := HM.out; omega
      have r5 : (0 : Int) ≤ (i : Int) := by omega
      go_wp2_with (fail)
      go_roundg gk
      case measure => omega
      case rel => exact ⟨i + 1, rfl, rfl, Lib.hid (by have := HI.out; omega), rfl⟩
    · have hi2 : i = m := by have := HI.out; omega
      subst hi2
      have r1 : decide ((i : Int) < (i : Int)) = false := decide_eq_false (by omega)
      go_wp2_with (fail)
      refine (H1.out _ HT1.out).mono ?_
      rintro e2 w2 ⟨A, c, rfl, hc, hC, hb2⟩
      have HB2 := Lib.hid (bel_alloc (bel_trans HB1.out hb2) (.cells #[.int .i64 0, .int .i64 0] 25))
      have HD2 := Lib.hid (blk_new w2 (.cells #[.int .i64 0, .int .i64 0] 25))
      have HL2 := Lib.hid (Kd.C_below hC (bel_alloc (Below.refl _ _) (.cells #[.int .i64 0, .int .i64 0] 25)))
      have HLC := Lib.hid hc
      clear hc hC hb2
      go_wp2_with (fail)
      refine (H2.out _ (HT.out.later HB2.out)).mono ?_
      rintro e3 w3 ⟨B, cb, rfl, hc, hC, hb3⟩
      have HB3 := Lib.hid (bel_alloc (bel_trans HB2.out hb3) (.cells #[.int .i64 0, .int .i64 0] 25))
      have HL3 := Lib.hid (Kd.C_below HL2.out (bel_alloc hb3 (.cells #[.int .i64 0, .int .i64 0] 25)))
      have HM3 := Lib.hid (Kd.C_below hC (bel_alloc (Below.refl _ _) (.cells #[.int .i64 0, .int .i64 0] 25)))
      have HMC := Lib.hid hc
      have hk := blk_alloc (blk_later hb3 HD2.out) (.cells #[.int .i64 0, .int .i64 0] 25)
      have HE3 := Lib.hid (blk_new w3 (.cells #[.int .i64 0, .int .i64 0] 25))
      have x0 := (blk_cell hk 0).trans rfl
      have x1 := (blk_cell hk 1).trans rfl
      clear hc hC hb3 hk
      go_wp2_with (fail)
      clear x0 x1
      refine (H3.out _ (HT.out.later HB3.out)).mono ?_
      rintro e4 w4 ⟨C, cc, rfl, hc, hC, hb4⟩
      have HB4 := Lib.hid (bel_alloc (bel_trans HB3.out hb4) (.cells #[.int .i64 0, .int .i64 0] 25))
      have HL4' := Lib.hid (Kd.C_below HL3.out (bel_alloc hb4 (.cells #[.int .i64 0, .int .i64 0] 25)))
      have HM4 := Lib.hid (Kd.C_below HM3.out (bel_alloc hb4 (.cells #[.int .i64 0, .int .i64 0] 25)))
      have HN4 := Lib.hid (Kd.C_below hC (bel_alloc (Below.refl _ _) (.cells #[.int .i64 0, .int .i64 0] 25)))
      have HNC := Lib.hid hc
      have HE4 := Lib.hid (blk_alloc (blk_later hb4 HE3.out) (.cells #[.int .i64 0, .int .i64 0] 25))
      have HF4 := Lib.hid (blk_new w4 (.cells #[.int .i64 0, .int .i64 0] 25))
      clear hc hC hb4
      go_wp2_with (fail)
      refine (quoinlaw02_alike.calls k _ _ K _ _ L true _ HN4.out HNC.out HL4'.out HLC.out HA.out).mono ?_
      rintro e5 w5 ⟨rfl, hd5⟩
      have HB5 := Lib.hid (bel_trans HB4.out hd5.below)
      have HL5 := Lib.hid (Kd.C_below HL4'.out hd5.below)
      have HM5 := Lib.hid (Kd.C_below HM4.out hd5.below)
      have hk := blk_later hd5.below HE4.out
      have hk2 := blk_later hd5.below HF4.out
      have x0 := (blk_cell hk 0).trans rfl
      have x1 := (blk_cell hk 1).trans rfl
      have y0 := (blk_cell hk2 0).trans rfl
      have y1 := (blk_cell hk2 1).trans rfl
      have hml : M.length = L.length := HMl.out
      clear hd5 hk hk2
      go_wp2_with (fail)
      clear x0 x1 y0 y1
      go_loopg [15] L.length (fun kq v15 w' => ∃ (j : Nat), v15 = .int .i64 (j : Int) ∧ Hid (kq + j = L.length) ∧ Hid (Below w.heap.size w w' ∧ Kd.C k31 w' A L.length L ∧ Kd.C k31 w' B M.length M))
      case atStart => exact ⟨0, rfl, Lib.hid rfl, Lib.hid ⟨HB5.out, HL5.out, HM5.out⟩⟩
      case round =>
        obtain ⟨j, rfl, HJ, HW⟩ := hrel
        have hl4 := HL4.out
        by_cases hj : j < L.length
        · obtain ⟨gk, rfl⟩ : ∃ q, gk = q + 1 := ⟨gk - 1, by have := HJ.out; omega⟩
          obtain ⟨kd, a, z, ha, hz, l0, l1, l2, m0, m1, m2⟩ := HX.out j hj
          obtain ⟨ad, e, x0, x1, x2, x3⟩ := at_T31 HW.out.2.1 (j : Int) (by omega) (by omega)
          obtain ⟨bd, e', y0, y1, y2, y3⟩ := at_T31 HW.out.2.2 (j : Int) (by omega) (by omega)
          rw [Int.toNat_natCast] at x0 x1 x2 x3 y0 y1 y2 y3
          rw [l0] at x0
          rw [l1] at x1
          rw [l2] at x2
          rw [m0] at y0
          rw [m1] at y1
          rw [m2] at y2
          cases e
          cases e'
          have r1 : decide ((j : Int) < ((L.length : Nat) : Int)) = true := decide_eq_true (by omega)
          have r2 : (j : Int) < ((M.length : Nat) : Int) := by omega
          have r3 : (j : Int) < ((L.length : Nat) : Int) := by omega
          have r4 : (0 : Int) ≤ (j : Int) := by omega
          have r5 : (j : Int) ≤ 4001 := by omega
          have r6 : (a : Int) ≤ 140737488351232 := by omega
          have r7 : (0 : Int) ≤ (a : Int) := by omega
          have r8 : (z : Int) ≤ 140737488351232 := by omega
          have r9 : (0 : Int) ≤ (z : Int) := by omega
          clear l0 l1 l2 m0 m1 m2 x3 y3 ha hz
          go_wp2_with (fail)
          go_quiet (fail)
          go_wp2_with (fail)
          go_roundg gk
          case measure => omega
          case rel => exact ⟨j + 1, rfl, Lib.hid (by have := HJ.out; omega), Lib.hid ⟨bel_trans HW.out.1 (Drawn0.mk ⟨nq, rfl⟩ : Drawn0 _ _).below, Kd.C_below HW.out.2.1 (Drawn0.mk ⟨nq, rfl⟩ : Drawn0 _ _).below, Kd.C_below HW.out.2.2 (Drawn0.mk ⟨nq, rfl⟩ : Drawn0 _ _).below⟩⟩
        · have r1 : decide ((j : Int) < ((L.length : Nat) : Int)) = false := decide_eq_false (by omega)
          have HB6 := Lib.hid HW.out.1
          go_wp2_with (fail)
          go_ret
          exact ⟨by first | rfl | (simp [Act.eval]; done) | (simp [Act.eval]; omega), HB6.out⟩


set_option maxHeartbeats 1000000 in
theorem lexBehind_any (s : ByteArray) (n : Int) (hs : s.size ≤ 140737488351232) (hn : (Lit.int .i64 n).wf = true) (w : World) (ht : Tab w) : Calls Tryd.prog 7 #[.string s, .int .i64 n] w fun e w' => e = .returned (.bool true) ∧ Below w.heap.size w w' := by
  have hb : -9223372036854775808 ≤ n ∧ n ≤ 9223372036854775807 := by
    simp [Lit.wf, IntKind.min, IntKind.max, IntKind.signed, IntKind.bits] at hn
    omega
  obtain ⟨h1, h2⟩ := hb
  obtain ⟨T, e, hL⟩ := lx_total 0 0 s.data.toList
  have key : ∀ x : Int, 0 ≤ x → ∃ m : Nat, m < 50 ∧ Int.tmod x 50 = (m : Int) := by
    intro x hx
    refine ⟨x.toNat % 50, Nat.mod_lt _ (by decide), ?_⟩
    rw [Int.tmod_eq_emod_of_nonneg hx]
    omega
  have gen : ∀ m : Nat, m < 50 → (∀ (fa fc : Nat), fc ≠ 0 → fa ≤ 140737488351232 → (Hid (∀ w, Tab w → Calls Tryd.prog 15 #[.string s] w fun r W => ∃ A c, r = .returned (.tuple #[.slice A 0 c, .agg #[.int .i64 (fa : Int), .int .i64 (fc : Int)]]) ∧ Below w.heap.size w W)) →
      (Hid (∀ w, Tab w → Calls Tryd.prog 15 #[.string (nl m ++ s)] w fun r W => ∃ A c, r = .returned (.tuple #[.slice A 0 c, .agg #[.int .i64 ((fa : Int) + (m : Int)), .int .i64 (fc : Int)]]) ∧ Below w.heap.size w W)) → Calls Tryd.prog 7 #[.string s, .int .i64 n] w fun e w' => e = .returned (.bool true) ∧ Below w.heap.size w w') →
      (∀ (L M K : List S31), L.length ≤ 4001 → M.length = L.length → ∀ k, quoinlaw02_alike.f k K L = some true →
        (∀ j, j < L.length → ∃ kd a z : Nat, a ≤ 140737488351232 ∧ z ≤ 140737488351232 ∧ (rd_T31 L (j : Int)).f0 = (kd : Int) ∧ (rd_T31 L (j : Int)).f1 = (a : Int) ∧ (rd_T31 L (j : Int)).f2 = (z : Int) ∧ (rd_T31 M (j : Int)).f0 = (kd : Int) ∧ (rd_T31 M (j : Int)).f1 = (a : Int) + (m : Int) ∧ (rd_T31 M (j : Int)).f2 = (z : Int) + (m : Int)) →
        (Hid (∀ w, Tab w → Calls Tryd.prog 15 #[.string s] w fun r W => ∃ A c, r = .returned (.tuple #[.slice A L.length c, .agg #[.int .i64 0, .int .i64 0]]) ∧ L.length ≤ c ∧ Kd.C k31 W A L.length L ∧ Below w.heap.size w W)) →
        (Hid (∀ w, Tab w → Calls Tryd.prog 15 #[.string (nl m ++ s)] w fun r W => ∃ A c, r = .returned (.tuple #[.slice A M.length c, .agg #[.int .i64 0, .int .i64 0]]) ∧ M.length ≤ c ∧ Kd.C k31 W A M.length M ∧ Below w.heap.size w W)) →
        (Hid (∀ w, Tab w → Calls Tryd.prog 15 #[.string (s ++ ⟨#[10, 47, 47, 32, 34]⟩)] w fun r W => ∃ A c, r = .returned (.tuple #[.slice A K.length c, .agg #[.int .i64 0, .int .i64 0]]) ∧ K.length ≤ c ∧ Kd.C k31 W A K.length K ∧ Below w.heap.size w W)) →
        Calls Tryd.prog 7 #[.string s, .int .i64 n] w fun e w' => e = .returned (.bool true) ∧ Below w.heap.size w w') →
      Calls Tryd.prog 7 #[.string s, .int .i64 n] w fun e w' => e = .returned (.bool true) ∧ Below w.heap.size w w' := by
    intro m hm herr hok
    have hLA := behind_a hL m (nl m) (nl_list m)
    have hsz : (nl m ++ s).size = m + s.size := by rw [ByteArray.size_append, nl_size]
    cases e with
    | some y =>
      obtain ⟨fa, fc⟩ := y
      have hq := lx_err hL fa fc rfl
      rw [len_toList] at hq
      exact herr fa fc hq.2.2 (by omega) (Lib.hid (all_some s (by omega) T fa fc _ rfl hL)) (Lib.hid (all_some (nl m ++ s) (by omega) _ (fa + m) fc ((fa : Int) + (m : Int)) (by omega) hLA))
    | none =>
      obtain ⟨z, hLC⟩ := behind_c hL
      have hal := behind_same hL z
      have hTl := (lx_len hL).2 (by omega)
      have hin := lx_last hL rfl
      have hz2 : (s ++ (⟨#[10, 47, 47, 32, 34]⟩ : ByteArray)).size ≤ 9223372036854775806 := by
        rw [ByteArray.size_append, show (⟨#[10, 47, 47, 32, 34]⟩ : ByteArray).size = 5 from rfl]; omega
      obtain ⟨K, hK⟩ : ∃ K, (T.dropLast ++ ([⟨0, z, z⟩] : List Tk)).map (tkS (s ++ ⟨#[10, 47, 47, 32, 34]⟩)) = K := ⟨_, rfl⟩
      obtain ⟨L, hE⟩ : ∃ L, T.map (tkS s) = L := ⟨_, rfl⟩
      obtain ⟨M, hF⟩ : ∃ M, (T.map (shift m)).map (tkS (nl m ++ s)) = M := ⟨_, rfl⟩
      have hKl : K.length ≤ 1000000 := by
        rw [← hK, List.length_map, List.length_append, List.length_dropLast]
        show T.length - 1 + 1 ≤ 1000000
        omega
      have hLl : L.length = T.length := by rw [← hE, List.length_map]
      have hMl : M.length = T.length := by rw [← hF, List.length_map, List.length_map]
      rw [hK, hE] at hal
      have hA := ralike K L hKl hal
      have H1 := Lib.hid (all_none s (by omega) T hL L hE)
      have H2 := Lib.hid (all_none (nl m ++ s) (by omega) _ hLA M hF)
      have H3 := Lib.hid (all_none _ hz2 _ hLC K hK)
      refine hok L M K (by omega) (by omega) _ hA ?_ H1 H2 H3
      · subst hE hF
        intro j hj
        rw [List.length_map] at hj
        have hbt : ∀ t ∈ T, t.at_ ≤ s.size ∧ t.en ≤ s.size := by
          obtain ⟨T0, h, hi⟩ := hin
          intro t ht
          rw [h] at ht
          rcases List.mem_append.1 ht with h' | h'
          · have := hi t h'
            rw [len_toList] at this
            omega
          · rw [len_toList] at h'
            obtain rfl := List.mem_singleton.1 h'
            show 0 + s.size ≤ s.size ∧ 0 + s.size ≤ s.size
            omega
        have hb := hbt T[j] (List.getElem_mem hj)
        have e1 : rd_T31 (T.map (tkS s)) (j : Int) = tkS s T[j] := rd_tk (List.getElem?_eq_getElem hj)
        have e2 : rd_T31 ((T.map (shift m)).map (tkS (nl m ++ s))) (j : Int) = tkS (nl m ++ s) (shift m T[j]) := rd_tk (by rw [List.getElem?_map, List.getElem?_eq_getElem hj]; rfl)
        rw [e1, e2]
        exact ⟨T[j].kd, T[j].at_, T[j].en, by omega, by omega, rfl, rfl, rfl, rfl, by simp [tkS, shift], by simp [tkS, shift]⟩
  by_cases hn0 : n < 0
  · obtain ⟨m, hm, hmod⟩ := key (-(n + 1)) (by omega)
    exact gen m hm (fun fa fc g1 g2 g3 g4 => behind_err_true s n m fa fc hn0 hmod g1 g2 hm h1 h2 w ht hs g3 g4)
      (fun L M K g1 g2 k g3 g4 g5 g6 g7 => behind_none_true s n m hn0 hmod hm h1 h2 w ht hs L M K g1 g2 k g3 g4 g5 g6 g7)
  · obtain ⟨m, hm, hmod⟩ := key n (by omega)
    exact gen m hm (fun fa fc g1 g2 g3 g4 => behind_err_false s n m fa fc hn0 hmod g1 g2 hm h1 h2 w ht hs g3 g4)
      (fun L M K g1 g2 k g3 g4 g5 g6 g7 => behind_none_false s n m hn0 hmod hm h1 h2 w ht hs L M K g1 g2 k g3 g4 g5 g6 g7)
end Go.Proofs.YtlmggfbpdciioaaDoor
