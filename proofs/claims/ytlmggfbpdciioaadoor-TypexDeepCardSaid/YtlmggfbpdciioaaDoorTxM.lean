/- typex: what a text's tokens tell. -/
import Derived.Test.YtlmggfbpdciioaaDoorTxL
namespace Go.Proofs.YtlmggfbpdciioaaDoor
open Go.RowKit PRef Go.Proofs.YtlmggfbpdciioaaDoorW.PrintWords
set_option linter.unusedVariables false
set_option linter.unusedSimpArgs false

theorem parse_c {A : Option Addr} {c : Nat} {L : List S31} (hs : ∀ t ∈ L, t.f3.size ≤ 9223372036854775807) (hl : L.length ≤ 140737488351232) (hc : L.length ≤ c) (a : Int) (x : S38) (n da db : Int) (hz : parseP L a = (x, n, da, db)) :
    Hid (∀ w', Kd.C k31 w' A L.length L → Calls Tryd.prog 24 #[.slice A L.length c, .int .i64 a] w' fun e W => ∃ A' m, e = .returned (.tuple #[.agg #[.int .i64 x.f0, .int .i64 x.f1, .string x.f2, .string x.f3, .slice A' x.f4.length m], .int .i64 n, .agg #[.int .i64 da, .int .i64 db]]) ∧ x.f4.length ≤ m ∧ Kd.C k38 W A' x.f4.length x.f4 ∧ Below w'.heap.size w' W) :=
  Lib.hid fun w' hC => by
    have h := parse_any A c L hs hl hc a w' hC
    rw [hz] at h
    exact h.mono fun e W ⟨A', m, h1, hm, hF, hb⟩ => ⟨A', m, h1, hm, Kd.F_now hF, hb⟩
theorem rparse_c {A : Option Addr} {c : Nat} {L : List S31} (hl : L.length ≤ 140737488351232) (hc : L.length ≤ c) (a : Int) (x : S38) (n da db : Int) (hz : parseP L a = (x, n, da, db)) :
    Hid (∀ w', Kd.C k31 w' A L.length L → Calls Tryd.prog 25 #[.slice A L.length c, .int .i64 a] w' fun e W => ∃ A' m, e = .returned (.tuple #[.agg #[.int .i64 x.f0, .int .i64 x.f1, .string x.f2, .string x.f3, .slice A' x.f4.length m], .int .i64 n, .agg #[.int .i64 da, .int .i64 db]]) ∧ x.f4.length ≤ m ∧ Kd.C k38 W A' x.f4.length x.f4 ∧ Below w'.heap.size w' W) :=
  Lib.hid fun w' hC => by
    have h := rparse_any A c L hl hc a w' hC
    rw [hz] at h
    exact h.mono fun e W ⟨A', m, h1, hm, hF, hb⟩ => ⟨A', m, h1, hm, Kd.F_now hF, hb⟩
theorem texts_small (s : ByteArray) (hs : s.size ≤ 140737488351232) (T : List Tk) : ∀ t ∈ T.map (tkS s), t.f3.size ≤ 9223372036854775807 := by
  intro t ht
  obtain ⟨u, _, rfl⟩ := List.mem_map.1 ht
  show (s.extract u.at_ u.en).size ≤ _
  rw [ByteArray.size_extract]
  omega

set_option maxRecDepth 100000 in
set_option maxHeartbeats 2000000 in
theorem typexTexts_any (s : ByteArray) (hs : s.size ≤ 140737488351232) (w : World) (ht : Tab w) : Calls Tryd.prog 11 #[.string s] w fun e w' => e = .returned (.bool true) ∧ Below w.heap.size w w' := by
  obtain ⟨T, e, hL⟩ := lx_total 0 0 s.data.toList
  have hl : (outT T e).length ≤ 4001 := by
    unfold outT
    have := (lx_len hL).2 (by omega)
    split <;> simp <;> omega
  have h1 := fun w ht => all_c s (by omega) w ht T e hL
  have hsm := texts_small s hs (outT T e)
  generalize hE : (outT T e).map (tkS s) = L at *
  have hEl : (outT T e).length = L.length := by rw [← hE, List.length_map]
  rw [hEl] at h1 hl
  obtain ⟨dc, hdc⟩ : ∃ dc : Int, (outC e : Int) = dc := ⟨_, rfl⟩
  obtain ⟨da, hda⟩ : ∃ da : Int, (outA e : Int) = da := ⟨_, rfl⟩
  rw [hdc, hda] at h1
  obtain ⟨⟨x, n, xa, xb⟩, hz⟩ : ∃ z : TyR, parseP L 0 = z := ⟨_, rfl⟩
  have hth := thin_parse L 0
  rw [hz] at hth
  have HTH := Lib.hid hth
  have H0 := Lib.hid (tawake_any w ht)
  have H1 := Lib.hid h1
  have HT := Lib.hid ht
  have HS := Lib.hid hsm
  have HL := Lib.hid hl
  have HZ := Lib.hid hz
  clear hL hl h1 hE hEl ht hdc hda hz hth hsm
  by_cases hd : dc = 0
  · subst hd
    go_enter Tryd.func11, Tryd.ntmps11
    go_wp2_with (fail)
    refine H0.out.mono ?_
    rintro e1 w1 ⟨rfl, hb1⟩
    have HB := Lib.hid hb1
    replace HT := Lib.hid (HT.out.later hb1)
    clear hb1
    go_wp2_with (fail)
    refine (H1.out _ HT.out).mono ?_
    rintro e2 w2 ⟨A, c, rfl, hc, hC, hb⟩
    have HC := Lib.hid (Kd.C_below hC (bel_alloc (Below.refl _ _) (.cells #[.int .i64 da, .int .i64 0] 25)))
    have HP := parse_c (A := A) HS.out (by have := HL.out; omega) hc 0 x n xa xb HZ.out
    have HR := rparse_c (A := A) (by have := HL.out; omega) hc 0 x n xa xb HZ.out
    replace HB := Lib.hid (bel_alloc (bel_trans HB.out hb) (.cells #[.int .i64 da, .int .i64 0] 25))
    clear hc hC hb
    go_wp2_with (fail)
    refine (HP.out _ HC.out).mono ?_
    rintro e3 w3 ⟨A3, c3, rfl, hm, hX, hb⟩
    replace HB := Lib.hid (bel_alloc (bel_alloc (bel_trans HB.out hb) (.cells #[.int .i64 x.f0, .int .i64 x.f1, .string x.f2, .string x.f3, .slice A3 x.f4.length c3] 38)) (.cells #[.int .i64 xa, .int .i64 xb] 25))
    replace HC := Lib.hid (Kd.C_below HC.out (bel_alloc (bel_alloc hb (.cells #[.int .i64 x.f0, .int .i64 x.f1, .string x.f2, .string x.f3, .slice A3 x.f4.length c3] 38)) (.cells #[.int .i64 xa, .int .i64 xb] 25)))
    have HX := Lib.hid (Kd.C_below hX (bel_alloc (bel_alloc (Below.refl _ _) (.cells #[.int .i64 x.f0, .int .i64 x.f1, .string x.f2, .string x.f3, .slice A3 x.f4.length c3] 38)) (.cells #[.int .i64 xa, .int .i64 xb] 25)))
    have B3 := Lib.hid (blk_alloc (blk_new w3 (.cells #[.int .i64 x.f0, .int .i64 x.f1, .string x.f2, .string x.f3, .slice A3 x.f4.length c3] 38)) (.cells #[.int .i64 xa, .int .i64 xb] 25))
    have B5 := Lib.hid (blk_new1 w3 (.cells #[.int .i64 x.f0, .int .i64 x.f1, .string x.f2, .string x.f3, .slice A3 x.f4.length c3] 38) (.cells #[.int .i64 xa, .int .i64 xb] 25))
    have HM := Lib.hid hm
    clear hb hX hm
    go_wp2_with (fail)
    refine (HR.out _ HC.out).mono ?_
    rintro e4 w4 ⟨A4, c4, rfl, hm, hY, hb⟩
    replace HB := Lib.hid (bel_alloc (bel_alloc (bel_trans HB.out hb) (.cells #[.int .i64 x.f0, .int .i64 x.f1, .string x.f2, .string x.f3, .slice A4 x.f4.length c4] 38)) (.cells #[.int .i64 xa, .int .i64 xb] 25))
    replace HX := Lib.hid (Kd.C_below HX.out (bel_alloc (bel_alloc hb (.cells #[.int .i64 x.f0, .int .i64 x.f1, .string x.f2, .string x.f3, .slice A4 x.f4.length c4] 38)) (.cells #[.int .i64 xa, .int .i64 xb] 25)))
    have HY := Lib.hid (Kd.C_below hY (bel_alloc (bel_alloc (Below.refl _ _) (.cells #[.int .i64 x.f0, .int .i64 x.f1, .string x.f2, .string x.f3, .slice A4 x.f4.length c4] 38)) (.cells #[.int .i64 xa, .int .i64 xb] 25)))
    replace B3 := Lib.hid (blk_alloc (blk_alloc (blk_later hb B3.out) (.cells #[.int .i64 x.f0, .int .i64 x.f1, .string x.f2, .string x.f3, .slice A4 x.f4.length c4] 38)) (.cells #[.int .i64 xa, .int .i64 xb] 25))
    replace B5 := Lib.hid (blk_alloc (blk_alloc (blk_later hb B5.out) (.cells #[.int .i64 x.f0, .int .i64 x.f1, .string x.f2, .string x.f3, .slice A4 x.f4.length c4] 38)) (.cells #[.int .i64 xa, .int .i64 xb] 25))
    have B9 := Lib.hid (blk_alloc (blk_new w4 (.cells #[.int .i64 x.f0, .int .i64 x.f1, .string x.f2, .string x.f3, .slice A4 x.f4.length c4] 38)) (.cells #[.int .i64 xa, .int .i64 xb] 25))
    have B11 := Lib.hid (blk_new1 w4 (.cells #[.int .i64 x.f0, .int .i64 x.f1, .string x.f2, .string x.f3, .slice A4 x.f4.length c4] 38) (.cells #[.int .i64 xa, .int .i64 xb] 25))
    have HQ := Lib.hid (same_c HTH.out A3 A4 c3 c4 _ HX.out HM.out HY.out hm)
    have z0 := (blk_cell B3.out 0).trans rfl
    have z1 := (blk_cell B3.out 1).trans rfl
    have z2 := (blk_cell B3.out 2).trans rfl
    have z3 := (blk_cell B3.out 3).trans rfl
    have z4 := (blk_cell B3.out 4).trans rfl
    have u0 := (blk_cell B9.out 0).trans rfl
    have u1 := (blk_cell B9.out 1).trans rfl
    have u2 := (blk_cell B9.out 2).trans rfl
    have u3 := (blk_cell B9.out 3).trans rfl
    have u4 := (blk_cell B9.out 4).trans rfl
    clear hb hm hY
    go_wp2_with (fail)
    refine HQ.out.mono ?_
    rintro e5 w5 ⟨rfl, hb⟩
    have b5 := blk_later hb B5.out
    have b11 := blk_later hb B11.out
    replace HB := Lib.hid (bel_trans HB.out hb)
    clear hb z0 z1 z2 z3 z4 u0 u1 u2 u3 u4
    have v0 := (blk_cell b5 0).trans rfl
    have v1 := (blk_cell b5 1).trans rfl
    have s0 := (blk_cell b11 0).trans rfl
    have s1 := (blk_cell b11 1).trans rfl
    clear b5 b11
    go_wp2_with (fail)
    go_ret
    exact ⟨by simp, HB.out⟩
  · have hd1 : (dc == 0) = false := beq_eq_false_iff_ne.2 hd
    have hd2 : (dc != 0) = true := by simp [bne, hd1]
    clear hd
    go_enter Tryd.func11, Tryd.ntmps11
    go_wp2_with (fail)
    refine H0.out.mono ?_
    rintro e1 w1 ⟨rfl, hb1⟩
    have HB := Lib.hid hb1
    replace HT := Lib.hid (HT.out.later hb1)
    clear hb1
    go_wp2_with (fail)
    refine (H1.out _ HT.out).mono ?_
    rintro e2 w2 ⟨A, c, rfl, hc, hC, hb⟩
    replace HB := Lib.hid (bel_alloc (bel_trans HB.out hb) (.cells #[.int .i64 da, .int .i64 dc] 25))
    clear hc hC hb
    go_wp2_with (fail)
    go_ret
    exact ⟨rfl, HB.out⟩
end Go.Proofs.YtlmggfbpdciioaaDoor
