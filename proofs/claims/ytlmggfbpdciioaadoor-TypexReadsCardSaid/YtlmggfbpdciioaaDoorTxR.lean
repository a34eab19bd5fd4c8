/- typex: what any tokens tell. -/
import Derived.Test.YtlmggfbpdciioaaDoorTxM
import Derived.Test.YtlmggfbpdciioaaDoorTxQ
namespace Go.Proofs.YtlmggfbpdciioaaDoor
open Go.RowKit PRef Go.Proofs.YtlmggfbpdciioaaDoorW.PrintWords
set_option linter.unusedVariables false
set_option linter.unusedSimpArgs false

set_option maxRecDepth 100000 in
set_option maxHeartbeats 4000000 in
theorem typexReads_any (A : Option Addr) (l : List S31) (c : Nat) (a : Int) (w : World) (hc : l.length ≤ c) (hl : l.length * 40 ≤ 140737488351232) (hs : ∀ t ∈ l, t.f3.size ≤ 9223372036854775807) (hC : Kd.C k31 w A l.length l) (ha : (Lit.int .i64 a).wf = true) (ht : Tab w) :
    Calls Tryd.prog 10 #[.slice A l.length c, .int .i64 a] w fun e w' => e = .returned (.bool true) ∧ Below w.heap.size w w' := by
  obtain ⟨⟨x, n, xa, xb⟩, hz⟩ : ∃ z : TyR, parseP l a = z := ⟨_, rfl⟩
  have hth := thin_parse l a
  rw [hz] at hth
  have HTH := Lib.hid hth
  have H0 := Lib.hid (tawake_any w ht)
  have HT := Lib.hid ht
  have HS := Lib.hid hs
  have HL := Lib.hid hl
  have HZ := Lib.hid hz
  have HCC := Lib.hid hc
  have HC := Lib.hid hC
  clear hl ht hz hth hs hc hC
  go_enter Tryd.func10, Tryd.ntmps10
  go_wp2_with (fail)
  refine H0.out.mono ?_
  rintro e1 w1 ⟨rfl, hb1⟩
  have HB := Lib.hid hb1
  replace HC := Lib.hid (Kd.C_below HC.out hb1)
  clear hb1
  have HC1 := Lib.hid (Kd.C_below HC.out (bel_alloc (Below.refl _ _) (.cells #[] 31)))
  have hown0 : (w1.alloc (.cells #[] 31)).ownsRow w1.heap.size 31 4 (.slice (some ⟨w1.heap.size, 0, none⟩) 0 0) ([] : List S31).length (([] : List S31).flatMap s31C) := World.ownsRow_made w1 #[] 0 (Nat.le_refl _) (Nat.zero_le _) rfl
  have HOWN0 := Lib.hid hown0
  clear hown0
  go_wp2_with (at_builtin; refine append_toks rfl _ _ rfl w1.heap.size (.slice (some ⟨w1.heap.size, 0, none⟩) 0 0) [] rfl HOWN0.out A l c rfl HC1.out (by have := HL.out; simp; omega) (by simp) ?_; intro v2 w2 hown2 hg2; have hbel2 := Below.grown (bel_alloc (Below.refl w1.heap.size w1) (.cells #[] 31)) hg2 (by simp) (by intro k hk; simp [Value.ownBlock] at hk; omega); replace HB := Lib.hid (bel_trans HB.out hbel2); replace HC := Lib.hid (Kd.C_below HC.out hbel2); obtain ⟨A2, c2, rfl, hc2, hC2⟩ := own_C (xs := l) hown2 (by have := HL.out; omega); have HC2 := Lib.hid hC2; have HCC2 := Lib.hid hc2; clear hown2 hg2 hbel2 hC2 hc2 HC1 HOWN0)
  have HP := parse_c (A := A2) HS.out (by have := HL.out; omega) HCC2.out a x n xa xb HZ.out
  have HR := rparse_c (A := A) (by have := HL.out; omega) HCC.out a x n xa xb HZ.out
  refine (HP.out _ HC2.out).mono ?_
  rintro e3 w3 ⟨A3, c3, rfl, hm, hX, hb⟩
  have hb3 := (bel_alloc (bel_alloc hb (.cells #[.int .i64 x.f0, .int .i64 x.f1, .string x.f2, .string x.f3, .slice A3 x.f4.length c3] 38)) (.cells #[.int .i64 xa, .int .i64 xb] 25))
  replace HB := Lib.hid (bel_trans HB.out hb3)
  replace HC := Lib.hid (Kd.C_below HC.out hb3)
  replace HC2 := Lib.hid (Kd.C_below HC2.out hb3)
  have HX := Lib.hid (Kd.C_below hX (bel_alloc (bel_alloc (Below.refl _ _) (.cells #[.int .i64 x.f0, .int .i64 x.f1, .string x.f2, .string x.f3, .slice A3 x.f4.length c3] 38)) (.cells #[.int .i64 xa, .int .i64 xb] 25)))
  have B3 := Lib.hid (blk_alloc (blk_new w3 (.cells #[.int .i64 x.f0, .int .i64 x.f1, .string x.f2, .string x.f3, .slice A3 x.f4.length c3] 38)) (.cells #[.int .i64 xa, .int .i64 xb] 25))
  have B5 := Lib.hid (blk_new1 w3 (.cells #[.int .i64 x.f0, .int .i64 x.f1, .string x.f2, .string x.f3, .slice A3 x.f4.length c3] 38) (.cells #[.int .i64 xa, .int .i64 xb] 25))
  have HM := Lib.hid hm
  clear hb hb3 hX hm
  go_wp2_with (fail)
  go_loopg [10] (l.length + 1) (fun kq v10 W => ∃ k : Nat, v10 = .int .i64 k ∧ Hid (kq + k = l.length + 1 ∧ k ≤ l.length) ∧ Hid (Drew ((w3.alloc (.cells #[.int .i64 x.f0, .int .i64 x.f1, .string x.f2, .string x.f3, .slice A3 x.f4.length c3] 38)).alloc (.cells #[.int .i64 xa, .int .i64 xb] 25)) W))
  case atStart => exact ⟨0, rfl, Lib.hid ⟨rfl, Nat.zero_le _⟩, Lib.hid (Drew.refl _)⟩
  case round =>
    obtain ⟨k, rfl, HK, HD⟩ := hrel
    replace HB := Lib.hid (bel_trans HB.out HD.out.bel)
    replace HC := Lib.hid (Kd.C_below HC.out HD.out.bel)
    replace HC2 := Lib.hid (Kd.C_below HC2.out HD.out.bel)
    replace HX := Lib.hid (Kd.C_below HX.out HD.out.bel)
    replace B3 := Lib.hid (blk_later HD.out.bel B3.out)
    replace B5 := Lib.hid (blk_later HD.out.bel B5.out)
    have hlb : l.length ≤ 140737488351232 := by have := HL.out; omega
    by_cases hlt : k < l.length
    · obtain ⟨ad, hA, x0, x1, x2, x3⟩ := at_T31 HC.out (k : Int) (by omega) (by omega)
      obtain ⟨ad', hA', y0, y1, y2, y3⟩ := at_T31 HC2.out (k : Int) (by omega) (by omega)
      subst hA hA'
      rw [Int.toNat_natCast] at x0 x1 x2 x3 y0 y1 y2 y3
      generalize rd_T31 l (k : Int) = t at *
      have i0 : (0 : Int) ≤ (k : Int) := by omega
      have i1 : (k : Int) < (l.length : Int) := by omega
      go_wp2_with (fail)
      go_quiet (fail)
      go_wp2_with (fail)
      go_roundg (gk - 1)
      case measure => have := HK.out.1; omega
      case rel => exact ⟨k + 1, by go_num, Lib.hid ⟨by have := HK.out.1; omega, hlt⟩, Lib.hid (HD.out.step nq)⟩
    · obtain rfl : k = l.length := by have := HK.out.2; omega
      go_wp2_with (fail)
      refine (HR.out _ HC.out).mono ?_
      rintro e4 w4 ⟨A4, c4, rfl, hm, hY, hb⟩
      replace HB := Lib.hid (bel_trans HB.out (bel_alloc (bel_alloc hb (.cells #[.int .i64 x.f0, .int .i64 x.f1, .string x.f2, .string x.f3, .slice A4 x.f4.length c4] 38)) (.cells #[.int .i64 xa, .int .i64 xb] 25)))
      replace HX := Lib.hid (Kd.C_below HX.out (bel_alloc (bel_alloc hb (.cells #[.int .i64 x.f0, .int .i64 x.f1, .string x.f2, .string x.f3, .slice A4 x.f4.length c4] 38)) (.cells #[.int .i64 xa, .int .i64 xb] 25)))
      have HY := Lib.hid (Kd.C_below hY (bel_alloc (bel_alloc (Below.refl _ _) (.cells #[.int .i64 x.f0, .int .i64 x.f1, .string x.f2, .string x.f3, .slice A4 x.f4.length c4] 38)) (.cells #[.int .i64 xa, .int .i64 xb] 25)))
      replace B3 := Lib.hid (blk_alloc (blk_alloc (blk_later hb B3.out) (.cells #[.int .i64 x.f0, .int .i64 x.f1, .string x.f2, .string x.f3, .slice A4 x.f4.length c4] 38)) (.cells #[.int .i64 xa, .int .i64 xb] 25))
      replace B5 := Lib.hid (blk_alloc (blk_alloc (blk_later hb B5.out) (.cells #[.int .i64 x.f0, .int .i64 x.f1, .string x.f2, .string x.f3, .slice A4 x.f4.length c4] 38)) (.cells #[.int .i64 xa, .int .i64 xb] 25))
      have B9 := Lib.hid (blk_alloc (blk_new w4 (.cells #[.int .i64 x.f0, .int .i64 x.f1, .string x.f2, .string x.f3, .slice A4 x.f4.length c4] 38)) (.cells #[.int .i64 xa, .int .i64 xb] 25))
      have B11 := Lib.hid (blk_new1 w4 (.cells #[.int .i64 x.f0, .int .i64 x.f1, .string x.f2, .string x.f3, .slice A4 x.f4.length c4] 38) (.cells #[.int .i64 xa, .int .i64 xb] 25))
      have HQ := Lib.hid (same_c HTH.out A3 A4 c3 c4 _ HX.out HM.out HY.out hm)
      have z0 := (blk_cell B3.out 0).trans rfl
      have z1 := (blk_cell B3.out 1).trans rfl
      have z2 := (blk_cell B3.out 2).trans rfl
      have z3 := (blk_cell B3.out 3).trans rfl
      have z4 := (blk_cell B3.out 4).trans rfl
      have u0 := (blk_cell B9.out 0).trans rfl
      have u1 := (blk_cell B9.out 1).trans rfl
      have u2 := (blk_cell B9.out 2).trans rfl
      have u3 := (blk_cell B9.out 3).trans rfl
      have u4 := (blk_cell B9.out 4).trans rfl
      clear hb hm hY
      go_wp2_with (fail)
      refine HQ.out.mono ?_
      rintro e5 w5 ⟨rfl, hb⟩
      have b5 := blk_later hb B5.out
      have b11 := blk_later hb B11.out
      replace HB := Lib.hid (bel_trans HB.out hb)
      clear hb z0 z1 z2 z3 z4 u0 u1 u2 u3 u4
      have v0 := (blk_cell b5 0).trans rfl
      have v1 := (blk_cell b5 1).trans rfl
      have s0 := (blk_cell b11 0).trans rfl
      have s1 := (blk_cell b11 1).trans rfl
      clear b5 b11
      go_wp2_with (fail)
      go_ret
      exact ⟨by simp, HB.out⟩
end Go.Proofs.YtlmggfbpdciioaaDoor
