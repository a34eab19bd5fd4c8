/- typex: lists just thirty deep. -/
import Derived.Test.YtlmggfbpdciioaaDoorTxM
import Derived.Test.YtlmggfbpdciioaaDoorTxN
namespace Go.Proofs.YtlmggfbpdciioaaDoor
open Go.RowKit PRef Go.Proofs.YtlmggfbpdciioaaDoorW.PrintWords
set_option linter.unusedVariables false
set_option linter.unusedSimpArgs false

theorem all_n {m : Nat} (hm : m < 70) (w : World) (ht : Tab w) : Calls Tryd.prog 15 #[.string (txtN m ++ ⟨#[105, 110, 116]⟩)] w fun r W => ∃ A c, r = .returned (.tuple #[.slice A (lN m).length c, .agg #[.int .i64 0, .int .i64 0]]) ∧ (lN m).length ≤ c ∧ Kd.C k31 W A (lN m).length (lN m) ∧ Below w.heap.size w W := by
  have h := all_c (sN m) (by have := lN_size hm; omega) w ht _ _ (lexN hm)
  have e : (outT (tokN m) none).length = (lN m).length := by unfold lN; rw [List.length_map]; rfl
  rw [e] at h
  exact h.mono fun r W ⟨A, c, hr, hc, hC, hb⟩ => ⟨A, c, hr, hc, hC, hb⟩
theorem txt_size : ∀ m, (txtN m).size = 2 * m
  | 0 => rfl
  | m + 1 => by rw [txtN, ByteArray.size_append, txt_size m]; rfl
theorem thin_xs (m : Nat) : ∀ j, (xsN m j).f4.length ≤ 1 | 0 => Nat.zero_le _ | j + 1 => Nat.le_refl _

set_option maxRecDepth 100000 in
set_option maxHeartbeats 4000000 in
theorem typexDeep_any (n : Int) (hn : (Lit.int .i64 n).wf = true) (w : World) (ht : Tab w) : Calls Tryd.prog 13 #[.int .i64 n] w fun e w' => e = .returned (.bool true) ∧ Below w.heap.size w w' := by
  have hb : -9223372036854775808 ≤ n ∧ n ≤ 9223372036854775807 := by simpa [Lit.wf, IntKind.min, IntKind.max, IntKind.signed, IntKind.bits] using hn
  obtain ⟨b0, b1⟩ := hb
  obtain ⟨m, hm⟩ : ∃ m : Nat, (m : Int) = (if n < 0 then -(n + 1) else n) % 70 := ⟨((if n < 0 then -(n + 1) else n) % 70).toNat, by have := Int.emod_nonneg (if n < 0 then -(n + 1) else n) (show (70 : Int) ≠ 0 by decide); omega⟩
  have hm70 : m < 70 := by have := Int.emod_lt_of_pos (if n < 0 then -(n + 1) else n) (show (0 : Int) < 70 by decide); omega
  have H0 := Lib.hid (tawake_any w ht)
  have HT := Lib.hid ht
  have HM70 := Lib.hid hm70
  have HM := Lib.hid hm
  have H1 := Lib.hid (fun w' ht' => all_n hm70 w' ht')
  clear ht hm hm70 hn
  obtain ⟨⟨x, p, xa, xb⟩, hz⟩ : ∃ z : TyR, parseP (lN m) 0 = z := ⟨_, rfl⟩
  have HZ := Lib.hid hz
  have HLN := Lib.hid (lN_facts HM70.out).2.2
  clear hz
  obtain ⟨m', hm'⟩ : ∃ m' : Int, m' = (if n < 0 then -(n + 1) else n) % 70 := ⟨_, rfl⟩
  have HMM := Lib.hid (HM.out.trans hm'.symm)
  rcases Int.lt_or_le n 0 with hneg | hpos
  · have c1 : wrap64 (n + 1) = n + 1 := wrap_small (by omega) (by omega)
    have c2 : wrap64 (-(n + 1)) = -(n + 1) := wrap_small (by omega) (by omega)
    have q0 : 0 ≤ -(n + 1) := by omega
    have q1 : -(n + 1) ≤ 9223372036854775807 := by omega
    have HV := Lib.hid (show -(n + 1).tmod 70 = (m : Int) from by rw [← Int.neg_tmod, Int.tmod_eq_emod_of_nonneg q0, HM.out, if_pos hneg])
    clear hm'
    go_enter Tryd.func13, Tryd.ntmps13
    go_wp2_with (fail)
    refine H0.out.mono ?_
    rintro e1 w1 ⟨rfl, hb1⟩
    have HB := Lib.hid hb1
    replace HT := Lib.hid (HT.out.later hb1)
    clear hb1
    go_wp2_with (fail)
    rw [HV.out]
    go_loopg [4, 5] (m + 1) (fun kq v4 v5 W => ∃ k : Nat, v4 = .string (txtN k) ∧ v5 = .int .i64 (k : Int) ∧ Hid (kq + k = m + 1 ∧ k ≤ m) ∧ Hid (Below w.heap.size w W ∧ Tab W))
    case atStart => exact ⟨0, rfl, rfl, Lib.hid ⟨rfl, Nat.zero_le _⟩, Lib.hid ⟨HB.out, HT.out⟩⟩
    case round =>
      obtain ⟨k, rfl, rfl, HK, HW⟩ := hrel
      have hk70 : k ≤ 70 := by have := HK.out.2; have := HM70.out; omega
      have hts := txt_size k
      have hsz1 : (txtN k).size ≤ 140 := by omega
      clear hts
      by_cases hlt : k < m
      · have hsz2 : (txtN k).size + 2 ≤ 9223372036854775807 := by omega
        go_wp2_with (fail)
        go_roundg (gk - 1)
        case measure => have := HK.out.1; omega
        case rel => exact ⟨k + 1, rfl, by go_num, Lib.hid ⟨by have := HK.out.1; omega, hlt⟩, HW⟩
      · obtain rfl : m = k := by have := HK.out.2; omega
        have HA := H1.out _ HW.out.2
        have HSM := Lib.hid (texts_small (sN m) (by have := lN_size HM70.out; omega) (tokN m))
        have hm7 : m < 70 := HM70.out
        go_wp2_with (fail)
        refine HA.mono ?_
        rintro e2 w2 ⟨A, c, rfl, hc, hC, hb⟩
        clear HA hm7
        have HC := Lib.hid (Kd.C_below hC (bel_alloc (Below.refl _ _) (.cells #[.int .i64 0, .int .i64 0] 25)))
        have HCC := Lib.hid hc
        replace HB := Lib.hid (bel_alloc (bel_trans HW.out.1 hb) (.cells #[.int .i64 0, .int .i64 0] 25))
        have B7 := Lib.hid (blk_new w2 (.cells #[.int .i64 0, .int .i64 0] 25))
        clear hc hC hb
        have HP := Lib.hid (fun w' (hC : Kd.C k31 w' A (lN m).length (lN m)) => parse_any A c (lN m) HSM.out (by have := HLN.out; omega) HCC.out 0 w' hC)
        go_wp2_with (fail)
        have HPP := HP.out _ HC.out
        rw [HZ.out] at HPP
        refine HPP.mono ?_
        rintro e3 w3 ⟨A3, c3, rfl, hm, hF, hb⟩
        clear HPP
        have HWX := Lib.hid (bel_trans HB.out hb).size
        replace HB := Lib.hid (bel_alloc (bel_alloc (bel_trans HB.out hb) (.cells #[.int .i64 x.f0, .int .i64 x.f1, .string x.f2, .string x.f3, .slice A3 x.f4.length c3] 38)) (.cells #[.int .i64 xa, .int .i64 xb] 25))
        have HX := Lib.hid (blk_alloc (blk_new w3 (.cells #[.int .i64 x.f0, .int .i64 x.f1, .string x.f2, .string x.f3, .slice A3 x.f4.length c3] 38)) (.cells #[.int .i64 xa, .int .i64 xb] 25))
        have H10 := Lib.hid (blk_new1 w3 (.cells #[.int .i64 x.f0, .int .i64 x.f1, .string x.f2, .string x.f3, .slice A3 x.f4.length c3] 38) (.cells #[.int .i64 xa, .int .i64 xb] 25))
        replace B7 := Lib.hid (blk_alloc (blk_alloc (blk_later hb B7.out) (.cells #[.int .i64 x.f0, .int .i64 x.f1, .string x.f2, .string x.f3, .slice A3 x.f4.length c3] 38)) (.cells #[.int .i64 xa, .int .i64 xb] 25))
        have HF := Lib.hid (Kd.F_mono (Kd.F_alloc (Kd.F_alloc (Kd.F_bound hF) (.cells #[.int .i64 x.f0, .int .i64 x.f1, .string x.f2, .string x.f3, .slice A3 x.f4.length c3] 38)) (.cells #[.int .i64 xa, .int .i64 xb] 25)) (ok' := fun k => k < w3.heap.size) (fun k hk => hk.2))
        have HMM3 := Lib.hid hm
        clear hm hF hb
        have b70 := (blk_cell B7.out 0).trans rfl
        have b71 := (blk_cell B7.out 1).trans rfl
        have t0 := (blk_cell H10.out 0).trans rfl
        have t1 := (blk_cell H10.out 1).trans rfl
        by_cases h30 : m ≤ 30
        · obtain ⟨rfl, rfl, rfl, rfl⟩ : x = xsN m m ∧ p = 2 * (m : Int) + 1 ∧ xa = 0 ∧ xb = 0 := by
            have h := HZ.out
            rw [parseN_ok h30] at h
            injection h with h1 h2
            injection h2 with h2 h3
            injection h3 with h3 h4
            exact ⟨h1.symm, h2.symm, h3.symm, h4.symm⟩
          go_wp2_with (fail)
          go_loopg [11] (m + 1) (fun kq v11 W => ∃ (i : Nat) (yA : Option Addr) (yc : Nat), v11 = .int .i64 i ∧ Hid (kq + i = m + 1 ∧ i ≤ m) ∧ Hid (Below w.heap.size w W) ∧ Hid (W.heap[w3.heap.size]? = some (.cells #[.int .i64 (xsN m (m - i)).f0, .int .i64 (xsN m (m - i)).f1, .string (xsN m (m - i)).f2, .string (xsN m (m - i)).f3, .slice yA (xsN m (m - i)).f4.length yc] 38 (0, 0))) ∧ Hid ((xsN m (m - i)).f4.length ≤ yc ∧ Kd.F k38 W (fun k => k < w3.heap.size) yA (xsN m (m - i)).f4.length (xsN m (m - i)).f4) ∧ Hid (W.heap[w3.heap.size + 1]? = some (.cells #[.int .i64 0, .int .i64 0] 25 (0, 0))))
          case atStart => exact ⟨0, A3, c3, rfl, Lib.hid ⟨rfl, Nat.zero_le _⟩, HB, HX, Lib.hid ⟨HMM3.out, HF.out⟩, H10⟩
          case round =>
            clear HB HX HF H10 t0 t1 b70 b71
            obtain ⟨i, yA, yc, rfl, HI, HB, HX, HF, H10⟩ := hrel
            have hi70 : (i : Int) ≤ 30 := by have := HI.out.2; omega
            have i0 : (0 : Int) ≤ (i : Int) := by omega
            by_cases hlt : i < m
            · obtain ⟨j, hj⟩ : ∃ j, m - i = j + 1 := ⟨m - i - 1, by omega⟩
              have hx := HX.out
              have hf := HF.out
              rw [hj, show xsN m (j + 1) = ⟨5, 2 * (i : Int), ⟨#[]⟩, ⟨#[]⟩, [xsN m j]⟩ from by rw [xsN, show m - (j + 1) = i by omega]] at hx hf
              obtain ⟨ad, cs, hA, hcl, hK, hcell, hok⟩ := Kd.F_get hf.2 z38 0 (by omega) (by simp)
              rw [show ([xsN m j] : List S38).getD (0 : Int).toNat z38 = xsN m j from rfl] at hK
              obtain ⟨A4, c4, rfl, l4, hF4⟩ := k38_openF hK
              subst hA
              have hadx : ad.block < w3.heap.size := hok (by decide)
              have hadne : ad.block ≠ w3.heap.size := Nat.ne_of_lt hadx
              have y0 := hcell 0 _ rfl
              have y1 := hcell 1 _ rfl
              have y2 := hcell 2 _ rfl
              have y3 := hcell 3 _ rfl
              have y4 := hcell 4 _ rfl
              rw [show ad.add ((0 : Int).toNat * k38.sz + 0) = ad from if_pos rfl] at y0
              rw [show ad.add ((0 : Int).toNat * k38.sz + 1) = ⟨ad.block, ad.off + 1, none⟩ from rfl] at y1
              rw [show ad.add ((0 : Int).toNat * k38.sz + 2) = ⟨ad.block, ad.off + 2, none⟩ from rfl] at y2
              rw [show ad.add ((0 : Int).toNat * k38.sz + 3) = ⟨ad.block, ad.off + 3, none⟩ from rfl] at y3
              rw [show ad.add ((0 : Int).toNat * k38.sz + 4) = ⟨ad.block, ad.off + 4, none⟩ from rfl] at y4
              have x0 := (blk_cell hx 0).trans rfl
              have x1 := (blk_cell hx 1).trans rfl
              have x2 := (blk_cell hx 2).trans rfl
              have x3 := (blk_cell hx 3).trans rfl
              have x4 := (blk_cell hx 4).trans rfl
              have f0 := blk_free hx 0
              have f1 := blk_free hx 1
              have f2 := blk_free hx 2
              have f3 := blk_free hx 3
              have f4 := blk_free hx 4
              have HX2 := Lib.hid (set5 (.int .i64 (xsN m j).f0) (.int .i64 (xsN m j).f1) (.string (xsN m j).f2) (.string (xsN m j).f3) (.slice A4 (xsN m j).f4.length c4) hx)
              have HF4 := Lib.hid hF4
              have HL4 := Lib.hid l4
              have HJ := Lib.hid hj
              clear hx hf hK hcell hok hF4 l4 hj hcl
              go_wp2_with (fail)
              go_roundg (gk - 1)
              case measure => have := HI.out.1; omega
              case rel =>
                have hj2 : m - (i + 1) = j := by have := HJ.out; omega
                have hw := HWX.out
                refine ⟨i + 1, A4, c4, by go_num, Lib.hid ⟨by have := HI.out.1; omega, hlt⟩, Lib.hid ?_, ?_, ?_, Lib.hid ?_⟩
                · exact bel_put (bel_put (bel_put (bel_put (bel_put HB.out _ 0 _ hw) _ 1 _ hw) _ 2 _ hw) _ 3 _ hw) _ 4 _ hw
                · rw [hj2]; exact HX2
                · rw [hj2]
                  exact Lib.hid ⟨HL4.out, Kd.F_far (Kd.F_far (Kd.F_far (Kd.F_far (Kd.F_far HF4.out (p := ⟨w3.heap.size, 0, none⟩) (fun k h => by simp only; omega) _) (p := ⟨w3.heap.size, 1, none⟩) (fun k h => by simp only; omega) _) (p := ⟨w3.heap.size, 2, none⟩) (fun k h => by simp only; omega) _) (p := ⟨w3.heap.size, 3, none⟩) (fun k h => by simp only; omega) _) (p := ⟨w3.heap.size, 4, none⟩) (fun k h => by simp only; omega) _⟩
                · rw [blk_far _ _ _ _ _ (by omega), blk_far _ _ _ _ _ (by omega), blk_far _ _ _ _ _ (by omega), blk_far _ _ _ _ _ (by omega), blk_far _ _ _ _ _ (by omega)]
                  exact H10.out
            · obtain rfl : m = i := by have := HI.out.2; omega
              have hx := HX.out
              rw [Nat.sub_self] at hx
              have x0 := (blk_cell hx 0).trans rfl
              have t0 := (blk_cell H10.out 0).trans rfl
              have t1 := (blk_cell H10.out 1).trans rfl
              simp only [xsN] at x0
              clear hx
              go_wp2_with (fail)
              go_ret
              exact ⟨by simp, HB.out⟩
        · obtain ⟨rfl, rfl, rfl, rfl⟩ : x = z38 ∧ p = 0 ∧ xa = 60 ∧ xb = 6 := by
            have h := HZ.out
            rw [parseN_deep HM70.out (by omega)] at h
            injection h with h1 h2
            injection h2 with h2 h3
            injection h3 with h3 h4
            exact ⟨h1.symm, h2.symm, h3.symm, h4.symm⟩
          have g30 : (30 : Int) < (m : Int) := by omega
          go_wp2_with (fail)
          go_ret
          exact ⟨rfl, HB.out⟩
  · have hneg : ¬ n < 0 := by omega
    have HV := Lib.hid (show n % 70 = (m : Int) from by rw [HM.out, if_neg hneg])
    clear hm'
    go_enter Tryd.func13, Tryd.ntmps13
    go_wp2_with (fail)
    refine H0.out.mono ?_
    rintro e1 w1 ⟨rfl, hb1⟩
    have HB := Lib.hid hb1
    replace HT := Lib.hid (HT.out.later hb1)
    clear hb1
    go_wp2_with (fail)
    rw [HV.out]
    go_loopg [4, 5] (m + 1) (fun kq v4 v5 W => ∃ k : Nat, v4 = .string (txtN k) ∧ v5 = .int .i64 (k : Int) ∧ Hid (kq + k = m + 1 ∧ k ≤ m) ∧ Hid (Below w.heap.size w W ∧ Tab W))
    case atStart => exact ⟨0, rfl, rfl, Lib.hid ⟨rfl, Nat.zero_le _⟩, Lib.hid ⟨HB.out, HT.out⟩⟩
    case round =>
      obtain ⟨k, rfl, rfl, HK, HW⟩ := hrel
      have hk70 : k ≤ 70 := by have := HK.out.2; have := HM70.out; omega
      have hts := txt_size k
      have hsz1 : (txtN k).size ≤ 140 := by omega
      clear hts
      by_cases hlt : k < m
      · have hsz2 : (txtN k).size + 2 ≤ 9223372036854775807 := by omega
        go_wp2_with (fail)
        go_roundg (gk - 1)
        case measure => have := HK.out.1; omega
        case rel => exact ⟨k + 1, rfl, by go_num, Lib.hid ⟨by have := HK.out.1; omega, hlt⟩, HW⟩
      · obtain rfl : m = k := by have := HK.out.2; omega
        have HA := H1.out _ HW.out.2
        have HSM := Lib.hid (texts_small (sN m) (by have := lN_size HM70.out; omega) (tokN m))
        have hm7 : m < 70 := HM70.out
        go_wp2_with (fail)
        refine HA.mono ?_
        rintro e2 w2 ⟨A, c, rfl, hc, hC, hb⟩
        clear HA hm7
        have HC := Lib.hid (Kd.C_below hC (bel_alloc (Below.refl _ _) (.cells #[.int .i64 0, .int .i64 0] 25)))
        have HCC := Lib.hid hc
        replace HB := Lib.hid (bel_alloc (bel_trans HW.out.1 hb) (.cells #[.int .i64 0, .int .i64 0] 25))
        have B7 := Lib.hid (blk_new w2 (.cells #[.int .i64 0, .int .i64 0] 25))
        clear hc hC hb
        have HP := Lib.hid (fun w' (hC : Kd.C k31 w' A (lN m).length (lN m)) => parse_any A c (lN m) HSM.out (by have := HLN.out; omega) HCC.out 0 w' hC)
        go_wp2_with (fail)
        have HPP := HP.out _ HC.out
        rw [HZ.out] at HPP
        refine HPP.mono ?_
        rintro e3 w3 ⟨A3, c3, rfl, hm, hF, hb⟩
        clear HPP
        have HWX := Lib.hid (bel_trans HB.out hb).size
        replace HB := Lib.hid (bel_alloc (bel_alloc (bel_trans HB.out hb) (.cells #[.int .i64 x.f0, .int .i64 x.f1, .string x.f2, .string x.f3, .slice A3 x.f4.length c3] 38)) (.cells #[.int .i64 xa, .int .i64 xb] 25))
        have HX := Lib.hid (blk_alloc (blk_new w3 (.cells #[.int .i64 x.f0, .int .i64 x.f1, .string x.f2, .string x.f3, .slice A3 x.f4.length c3] 38)) (.cells #[.int .i64 xa, .int .i64 xb] 25))
        have H10 := Lib.hid (blk_new1 w3 (.cells #[.int .i64 x.f0, .int .i64 x.f1, .string x.f2, .string x.f3, .slice A3 x.f4.length c3] 38) (.cells #[.int .i64 xa, .int .i64 xb] 25))
        replace B7 := Lib.hid (blk_alloc (blk_alloc (blk_later hb B7.out) (.cells #[.int .i64 x.f0, .int .i64 x.f1, .string x.f2, .string x.f3, .slice A3 x.f4.length c3] 38)) (.cells #[.int .i64 xa, .int .i64 xb] 25))
        have HF := Lib.hid (Kd.F_mono (Kd.F_alloc (Kd.F_alloc (Kd.F_bound hF) (.cells #[.int .i64 x.f0, .int .i64 x.f1, .string x.f2, .string x.f3, .slice A3 x.f4.length c3] 38)) (.cells #[.int .i64 xa, .int .i64 xb] 25)) (ok' := fun k => k < w3.heap.size) (fun k hk => hk.2))
        have HMM3 := Lib.hid hm
        clear hm hF hb
        have b70 := (blk_cell B7.out 0).trans rfl
        have b71 := (blk_cell B7.out 1).trans rfl
        have t0 := (blk_cell H10.out 0).trans rfl
        have t1 := (blk_cell H10.out 1).trans rfl
        by_cases h30 : m ≤ 30
        · obtain ⟨rfl, rfl, rfl, rfl⟩ : x = xsN m m ∧ p = 2 * (m : Int) + 1 ∧ xa = 0 ∧ xb = 0 := by
            have h := HZ.out
            rw [parseN_ok h30] at h
            injection h with h1 h2
            injection h2 with h2 h3
            injection h3 with h3 h4
            exact ⟨h1.symm, h2.symm, h3.symm, h4.symm⟩
          go_wp2_with (fail)
          go_loopg [11] (m + 1) (fun kq v11 W => ∃ (i : Nat) (yA : Option Addr) (yc : Nat), v11 = .int .i64 i ∧ Hid (kq + i = m + 1 ∧ i ≤ m) ∧ Hid (Below w.heap.size w W) ∧ Hid (W.heap[w3.heap.size]? = some (.cells #[.int .i64 (xsN m (m - i)).f0, .int .i64 (xsN m (m - i)).f1, .string (xsN m (m - i)).f2, .string (xsN m (m - i)).f3, .slice yA (xsN m (m - i)).f4.length yc] 38 (0, 0))) ∧ Hid ((xsN m (m - i)).f4.length ≤ yc ∧ Kd.F k38 W (fun k => k < w3.heap.size) yA (xsN m (m - i)).f4.length (xsN m (m - i)).f4) ∧ Hid (W.heap[w3.heap.size + 1]? = some (.cells #[.int .i64 0, .int .i64 0] 25 (0, 0))))
          case atStart => exact ⟨0, A3, c3, rfl, Lib.hid ⟨rfl, Nat.zero_le _⟩, HB, HX, Lib.hid ⟨HMM3.out, HF.out⟩, H10⟩
          case round =>
            clear HB HX HF H10 t0 t1 b70 b71
            obtain ⟨i, yA, yc, rfl, HI, HB, HX, HF, H10⟩ := hrel
            have hi70 : (i : Int) ≤ 30 := by have := HI.out.2; omega
            have i0 : (0 : Int) ≤ (i : Int) := by omega
            by_cases hlt : i < m
            · obtain ⟨j, hj⟩ : ∃ j, m - i = j + 1 := ⟨m - i - 1, by omega⟩
              have hx := HX.out
              have hf := HF.out
              rw [hj, show xsN m (j + 1) = ⟨5, 2 * (i : Int), ⟨#[]⟩, ⟨#[]⟩, [xsN m j]⟩ from by rw [xsN, show m - (j + 1) = i by omega]] at hx hf
              obtain ⟨ad, cs, hA, hcl, hK, hcell, hok⟩ := Kd.F_get hf.2 z38 0 (by omega) (by simp)
              rw [show ([xsN m j] : List S38).getD (0 : Int).toNat z38 = xsN m j from rfl] at hK
              obtain ⟨A4, c4, rfl, l4, hF4⟩ := k38_openF hK
              subst hA
              have hadx : ad.block < w3.heap.size := hok (by decide)
              have hadne : ad.block ≠ w3.heap.size := Nat.ne_of_lt hadx
              have y0 := hcell 0 _ rfl
              have y1 := hcell 1 _ rfl
              have y2 := hcell 2 _ rfl
              have y3 := hcell 3 _ rfl
              have y4 := hcell 4 _ rfl
              rw [show ad.add ((0 : Int).toNat * k38.sz + 0) = ad from if_pos rfl] at y0
              rw [show ad.add ((0 : Int).toNat * k38.sz + 1) = ⟨ad.block, ad.off + 1, none⟩ from rfl] at y1
              rw [show ad.add ((0 : Int).toNat * k38.sz + 2) = ⟨ad.block, ad.off + 2, none⟩ from rfl] at y2
              rw [show ad.add ((0 : Int).toNat * k38.sz + 3) = ⟨ad.block, ad.off + 3, none⟩ from rfl] at y3
              rw [show ad.add ((0 : Int).toNat * k38.sz + 4) = ⟨ad.block, ad.off + 4, none⟩ from rfl] at y4
              have x0 := (blk_cell hx 0).trans rfl
              have x1 := (blk_cell hx 1).trans rfl
              have x2 := (blk_cell hx 2).trans rfl
              have x3 := (blk_cell hx 3).trans rfl
              have x4 := (blk_cell hx 4).trans rfl
              have f0 := blk_free hx 0
              have f1 := blk_free hx 1
              have f2 := blk_free hx 2
              have f3 := blk_free hx 3
              have f4 := blk_free hx 4
              have HX2 := Lib.hid (set5 (.int .i64 (xsN m j).f0) (.int .i64 (xsN m j).f1) (.string (xsN m j).f2) (.string (xsN m j).f3) (.slice A4 (xsN m j).f4.length c4) hx)
              have HF4 := Lib.hid hF4
              have HL4 := Lib.hid l4
              have HJ := Lib.hid hj
              clear hx hf hK hcell hok hF4 l4 hj hcl
              go_wp2_with (fail)
              go_roundg (gk - 1)
              case measure => have := HI.out.1; omega
              case rel =>
                have hj2 : m - (i + 1) = j := by have := HJ.out; omega
                have hw := HWX.out
                refine ⟨i + 1, A4, c4, by go_num, Lib.hid ⟨by have := HI.out.1; omega, hlt⟩, Lib.hid ?_, ?_, ?_, Lib.hid ?_⟩
                · exact bel_put (bel_put (bel_put (bel_put (bel_put HB.out _ 0 _ hw) _ 1 _ hw) _ 2 _ hw) _ 3 _ hw) _ 4 _ hw
                · rw [hj2]; exact HX2
                · rw [hj2]
                  exact Lib.hid ⟨HL4.out, Kd.F_far (Kd.F_far (Kd.F_far (Kd.F_far (Kd.F_far HF4.out (p := ⟨w3.heap.size, 0, none⟩) (fun k h => by simp only; omega) _) (p := ⟨w3.heap.size, 1, none⟩) (fun k h => by simp only; omega) _) (p := ⟨w3.heap.size, 2, none⟩) (fun k h => by simp only; omega) _) (p := ⟨w3.heap.size, 3, none⟩) (fun k h => by simp only; omega) _) (p := ⟨w3.heap.size, 4, none⟩) (fun k h => by simp only; omega) _⟩
                · rw [blk_far _ _ _ _ _ (by omega), blk_far _ _ _ _ _ (by omega), blk_far _ _ _ _ _ (by omega), blk_far _ _ _ _ _ (by omega), blk_far _ _ _ _ _ (by omega)]
                  exact H10.out
            · obtain rfl : m = i := by have := HI.out.2; omega
              have hx := HX.out
              rw [Nat.sub_self] at hx
              have x0 := (blk_cell hx 0).trans rfl
              have t0 := (blk_cell H10.out 0).trans rfl
              have t1 := (blk_cell H10.out 1).trans rfl
              simp only [xsN] at x0
              clear hx
              go_wp2_with (fail)
              go_ret
              exact ⟨by simp, HB.out⟩
        · obtain ⟨rfl, rfl, rfl, rfl⟩ : x = z38 ∧ p = 0 ∧ xa = 60 ∧ xb = 6 := by
            have h := HZ.out
            rw [parseN_deep HM70.out (by omega)] at h
            injection h with h1 h2
            injection h2 with h2 h3
            injection h3 with h3 h4
            exact ⟨h1.symm, h2.symm, h3.symm, h4.symm⟩
          have g30 : (30 : Int) < (m : Int) := by omega
          go_wp2_with (fail)
          go_ret
          exact ⟨rfl, HB.out⟩
end Go.Proofs.YtlmggfbpdciioaaDoor
