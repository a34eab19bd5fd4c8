/- lex: the document's tokens are the program's. -/
import Derived.Test.YtlmggfbpdciioaaDoorLxR
import Derived.Test.YtlmggfbpdciioaaDoorPRefx5
import Derived.Test.YtlmggfbpdciioaaDoorRtD
namespace Go.Proofs.YtlmggfbpdciioaaDoor
open Go.RowKit PRef Go.Proofs.YtlmggfbpdciioaaDoorW.PrintWords
set_option linter.unusedVariables false

/-- The document's All, as a call. -/
theorem rall_c (s : ByteArray) (hs : s.size ≤ 9223372036854775806) (w : World) (T : List Tk) (e : Option (Nat × Nat)) (hL : Lx 0 0 s.data.toList T e) :
    Calls Tryd.prog 16 #[.string s] w fun r W => ∃ A c, r = .returned (.tuple #[.slice A (outT T e).length c, .agg #[.int .i64 (outA e : Int), .int .i64 (outC e : Int)]]) ∧ (outT T e).length ≤ c ∧ Kd.C k31 W A (outT T e).length ((outT T e).map (tkS s)) ∧ Below w.heap.size w W := by
  refine (rall_any s hs w T e hL).mono fun r W h => ?_
  obtain ⟨v, rfl, hrow, hb⟩ := h
  have hl : (outT T e).length ≤ 4001 := by
    unfold outT
    have := (lx_len hL).2 (by omega)
    split <;> simp <;> omega
  obtain ⟨A, c, rfl, hc, hC⟩ := own_C (xs := (outT T e).map (tkS s)) (by rw [List.length_map]; exact hrow) (by rw [List.length_map]; omega)
  rw [List.length_map] at hc hC
  exact ⟨A, c, by rw [List.length_map], hc, hC, hb⟩

/-- Same, of one list twice. -/
theorem rsame_l (l : List S31) (hl : l.length ≤ 1000000) : ∀ (d k i : Nat), i ≤ l.length → l.length - i ≤ d → d + 1 ≤ k → quoinref02_Same.l0 k l l (i : Int) = some true := by
  intro d
  induction d with
  | zero =>
    intro k i hi hd hk
    obtain ⟨k, rfl⟩ : ∃ m, k = m + 1 := ⟨k - 1, by omega⟩
    rw [quoinref02_Same.l0, if_neg (by omega)]
  | succ d ih =>
    intro k i hi hd hk
    obtain ⟨k, rfl⟩ : ∃ m, k = m + 1 := ⟨k - 1, by omega⟩
    rw [quoinref02_Same.l0]
    by_cases hlt : i < l.length
    · rw [if_pos (by omega), if_pos (by omega), if_pos (by omega), if_neg (by simp), show wrap64 ((i : Int) + 1) = ((i + 1 : Nat) : Int) by rw [wrap_small (by omega) (by omega)]; rfl]
      exact ih k (i + 1) (by omega) (by omega) (by omega)
    · rw [if_neg (by omega)]
theorem rsame (l : List S31) (hl : l.length ≤ 1000000) : quoinref02_Same.f (l.length + 1) l l = some true := by
  unfold quoinref02_Same.f
  rw [if_pos rfl]
  exact rsame_l l hl l.length (l.length + 1) 0 (Nat.zero_le _) (by omega) (by omega)

set_option maxRecDepth 100000 in
set_option maxHeartbeats 1000000 in
theorem lexReads_any (s : ByteArray) (hs : s.size ≤ 140737488351232) (w : World) (ht : Tab w) : Calls Tryd.prog 4 #[.string s] w fun e w' => e = .returned (.bool true) ∧ Below w.heap.size w w' := by
  obtain ⟨T, e, hL⟩ := lx_total 0 0 s.data.toList
  have hl : (outT T e).length ≤ 4001 := by
    unfold outT
    have := (lx_len hL).2 (by omega)
    split <;> simp <;> omega
  have h1 := fun w ht => all_c s (by omega) w ht T e hL
  have h2 := fun w => rall_c s (by omega) w T e hL
  generalize hE : (outT T e).map (tkS s) = L at *
  have hEl : (outT T e).length = L.length := by rw [← hE, List.length_map]
  rw [hEl] at h1 h2 hl
  generalize outA e = da at *
  generalize outC e = dc at *
  have H0 := Lib.hid (awake_any w ht)
  have H1 := Lib.hid h1
  have H2 := Lib.hid h2
  have H3 := Lib.hid (fun w ht => word_any s (by simp only [maxLen]; omega) w ht)
  have H4 := Lib.hid (fun w => rword_c s w)
  have HS := Lib.hid (rsame L (by omega))
  generalize wordB s.data.toList = wb at *
  have HT := Lib.hid ht
  clear hL hl h1 h2 hE hEl ht
  go_enter Tryd.func4, Tryd.ntmps4
  go_wp2_with (fail)
  refine H0.out.mono ?_
  rintro e1 w1 ⟨rfl, hb1⟩
  have HB1 := Lib.hid hb1
  have HT1 := Lib.hid (HT.out.later hb1)
  clear hb1
  go_wp2_with (fail)
  refine (H1.out _ HT1.out).mono ?_
  rintro e2 w2 ⟨A, c, rfl, hc, hC, hb2⟩
  have HC := Lib.hid hC
  have HCC := Lib.hid hc
  have HB2 := Lib.hid (bel_trans HB1.out hb2)
  clear hc hC hb2
  go_wp2_with (fail)
  refine (H2.out _).mono ?_
  rintro e3 w3 ⟨A', c', rfl, hc', hC', hb3⟩
  have HC1 := Lib.hid (Kd.C_below HC.out (bel_trans (bel_alloc (Below.refl _ _) (.cells #[.int .i64 (da : Int), .int .i64 (dc : Int)] 25)) hb3))
  have HC' := Lib.hid hC'
  have HCC' := Lib.hid hc'
  have HB3 := Lib.hid (bel_trans (bel_alloc HB2.out (.cells #[.int .i64 (da : Int), .int .i64 (dc : Int)] 25)) hb3)
  have HD := Lib.hid (blk_later hb3 (blk_new w2 (.cells #[.int .i64 (da : Int), .int .i64 (dc : Int)] 25)))
  clear hc' hC' hb3
  go_wp2_with (fail)
  refine (quoinref02_Same.calls _ _ _ L _ _ L true _ (Kd.C_below HC1.out (bel_alloc (Below.refl _ _) _)) HCC.out (Kd.C_below HC'.out (bel_alloc (Below.refl _ _) _)) HCC'.out HS.out).mono ?_
  rintro e4 w4 ⟨rfl, hd4⟩
  have HB4 := Lib.hid (bel_trans (bel_alloc (Below.refl _ _) (.cells #[.int .i64 (da : Int), .int .i64 (dc : Int)] 25)) hd4.below)
  have hk1 := blk_later HB4.out HD.out
  have hk2 := blk_later hd4.below (blk_new w3 (.cells #[.int .i64 (da : Int), .int .i64 (dc : Int)] 25))
  have x0 := (blk_cell hk1 0).trans rfl
  have x1 := (blk_cell hk1 1).trans rfl
  have y0 := (blk_cell hk2 0).trans rfl
  have y1 := (blk_cell hk2 1).trans rfl
  have HBT := Lib.hid (bel_trans HB3.out HB4.out)
  clear hd4 hk1 hk2
  go_wp2_with (fail)
  refine (H3.out _ (HT.out.later HBT.out)).mono ?_
  rintro e5 w5 ⟨rfl, hb5⟩
  have HB5 := Lib.hid (bel_trans HBT.out hb5)
  clear hb5
  go_wp2_with (fail)
  refine (H4.out _).mono ?_
  rintro e6 w6 ⟨rfl, hb6⟩
  have HB6 := Lib.hid (bel_trans HB5.out hb6)
  clear hb6
  go_wp2_with (fail)
  go_ret
  exact ⟨by simp, HB6.out⟩
end Go.Proofs.YtlmggfbpdciioaaDoor
