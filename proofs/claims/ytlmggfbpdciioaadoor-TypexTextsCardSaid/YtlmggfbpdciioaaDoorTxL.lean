/- typex: awake, TypexNames. -/
import Derived.Test.YtlmggfbpdciioaaDoorTxK
namespace Go.Proofs.YtlmggfbpdciioaaDoor
open Go.RowKit PRef Go.Proofs.YtlmggfbpdciioaaDoorW.PrintWords
set_option linter.unusedVariables false
set_option linter.unusedSimpArgs false

def sTx : ByteArray := ⟨#[91, 93, 97, 46, 84, 59]⟩
def tTx : List Tk := [⟨4, 0, 1⟩, ⟨4, 1, 2⟩, ⟨1, 2, 3⟩, ⟨4, 3, 4⟩, ⟨1, 4, 5⟩, ⟨4, 5, 6⟩, ⟨0, 6, 6⟩]
def lTx : List S31 := [⟨4, 0, 1, ⟨#[91]⟩⟩, ⟨4, 1, 2, ⟨#[93]⟩⟩, ⟨1, 2, 3, ⟨#[97]⟩⟩, ⟨4, 3, 4, ⟨#[46]⟩⟩, ⟨1, 4, 5, ⟨#[84]⟩⟩, ⟨4, 5, 6, ⟨#[59]⟩⟩, ⟨0, 6, 6, ⟨#[]⟩⟩]
theorem lx_tx : Lx 0 0 sTx.data.toList tTx none := lexE_lx 10 _ _ _ _ _ (by kernel_rfl)
theorem tx_l : tTx.map (tkS sTx) = lTx := by kernel_rfl
theorem all_tx (w : World) (ht : Tab w) : Calls Tryd.prog 15 #[.string ⟨#[91, 93, 97, 46, 84, 59]⟩] w fun r W => ∃ A c, r = .returned (.tuple #[.slice A 7 c, .agg #[.int .i64 0, .int .i64 0]]) ∧ 7 ≤ c ∧ Kd.C k31 W A 7 lTx ∧ Below w.heap.size w W :=
  (all_c sTx (by decide) w ht _ _ lx_tx).mono fun r W ⟨A, c, hr, hc, hC, hb⟩ => ⟨A, c, hr, hc, tx_l ▸ hC, hb⟩
def x0Tx : S38 := ⟨4, 2, ⟨#[97]⟩, ⟨#[84]⟩, []⟩
theorem parse_tx0 : parseP lTx 0 = (⟨5, 0, ⟨#[]⟩, ⟨#[]⟩, [x0Tx]⟩, 5, 0, 0) := by kernel_rfl
theorem parse_tx5 : parseP lTx 5 = (z38, 0, 5, 5) := by kernel_rfl
theorem ltx_small : ∀ t ∈ lTx, t.f3.size ≤ 9223372036854775807 := by decide
theorem p_tx0 (A : Option Addr) (c : Nat) (hc : 7 ≤ c) (w : World) (hC : Kd.C k31 w A 7 lTx) : Calls Tryd.prog 24 #[.slice A 7 c, .int .i64 0] w fun e W => ∃ A' c', e = .returned (.tuple #[.agg #[.int .i64 5, .int .i64 0, .string ⟨#[]⟩, .string ⟨#[]⟩, .slice A' 1 c'], .int .i64 5, .agg #[.int .i64 0, .int .i64 0]]) ∧ Kd.C k38 W A' 1 [x0Tx] ∧ Below w.heap.size w W := by
  have h := parse_any A c lTx ltx_small (by decide) hc 0 w hC
  rw [parse_tx0] at h
  exact h.mono fun e W ⟨A', c', h1, _, hF, hb⟩ => ⟨A', c', h1, Kd.F_now hF, hb⟩
theorem p_tx5 (A : Option Addr) (c : Nat) (hc : 7 ≤ c) (w : World) (hC : Kd.C k31 w A 7 lTx) : Calls Tryd.prog 24 #[.slice A 7 c, .int .i64 5] w fun e W => ∃ A' c', e = .returned (.tuple #[.agg #[.int .i64 0, .int .i64 0, .string ⟨#[]⟩, .string ⟨#[]⟩, .slice A' 0 c'], .int .i64 0, .agg #[.int .i64 5, .int .i64 5]]) ∧ Below w.heap.size w W := by
  have h := parse_any A c lTx ltx_small (by decide) hc 5 w hC
  rw [parse_tx5] at h
  exact h.mono fun e W ⟨A', c', h1, _, hF, hb⟩ => ⟨A', c', h1, hb⟩

set_option maxRecDepth 100000 in
set_option maxHeartbeats 2000000 in
theorem tawake_any (w : World) (ht : Tab w) : Calls Tryd.prog 23 #[] w fun e w' => e = .returned (.bool true) ∧ Below w.heap.size w w' := by
  have HT := Lib.hid ht
  clear ht
  go_enter Tryd.func23, Tryd.ntmps23
  go_wp2_with (fail)
  refine (all_tx w HT.out).mono ?_
  rintro e w1 ⟨A, c, rfl, hc, hC, hb1⟩
  have HCC := Lib.hid hc
  have HC := Lib.hid (Kd.C_below hC (bel_alloc (Below.refl _ _) (.cells #[.int .i64 0, .int .i64 0] 25)))
  have HB := Lib.hid (bel_alloc hb1 (.cells #[.int .i64 0, .int .i64 0] 25))
  clear hC hb1 hc
  go_wp2_with (fail)
  refine (p_tx0 A c HCC.out _ HC.out).mono ?_
  rintro e w2 ⟨A2, c2, rfl, hX, hb⟩
  replace HB := Lib.hid (bel_alloc (bel_alloc (bel_trans HB.out hb) (.cells #[.int .i64 5, .int .i64 0, .string ⟨#[]⟩, .string ⟨#[]⟩, .slice A2 1 c2] 38)) (.cells #[.int .i64 0, .int .i64 0] 25))
  replace HC := Lib.hid (Kd.C_below HC.out (bel_alloc (bel_alloc hb (.cells #[.int .i64 5, .int .i64 0, .string ⟨#[]⟩, .string ⟨#[]⟩, .slice A2 1 c2] 38)) (.cells #[.int .i64 0, .int .i64 0] 25)))
  have HX := Lib.hid (Kd.C_below hX (bel_alloc (bel_alloc (Below.refl _ _) (.cells #[.int .i64 5, .int .i64 0, .string ⟨#[]⟩, .string ⟨#[]⟩, .slice A2 1 c2] 38)) (.cells #[.int .i64 0, .int .i64 0] 25)))
  have B3 := Lib.hid (blk_alloc (blk_new w2 (.cells #[.int .i64 5, .int .i64 0, .string ⟨#[]⟩, .string ⟨#[]⟩, .slice A2 1 c2] 38)) (.cells #[.int .i64 0, .int .i64 0] 25))
  have B5 := Lib.hid (blk_new1 w2 (.cells #[.int .i64 5, .int .i64 0, .string ⟨#[]⟩, .string ⟨#[]⟩, .slice A2 1 c2] 38) (.cells #[.int .i64 0, .int .i64 0] 25))
  clear hb hX
  go_wp2_with (fail)
  refine (p_tx5 A c HCC.out _ HC.out).mono ?_
  rintro e w3 ⟨A3, c3, rfl, hb⟩
  replace HB := Lib.hid (bel_alloc (bel_alloc (bel_trans HB.out hb) (.cells #[.int .i64 0, .int .i64 0, .string ⟨#[]⟩, .string ⟨#[]⟩, .slice A3 0 c3] 38)) (.cells #[.int .i64 5, .int .i64 5] 25))
  have hX := Kd.C_below HX.out (bel_alloc (bel_alloc hb (.cells #[.int .i64 0, .int .i64 0, .string ⟨#[]⟩, .string ⟨#[]⟩, .slice A3 0 c3] 38)) (.cells #[.int .i64 5, .int .i64 5] 25))
  have b3 := blk_alloc (blk_alloc (blk_later hb B3.out) (.cells #[.int .i64 0, .int .i64 0, .string ⟨#[]⟩, .string ⟨#[]⟩, .slice A3 0 c3] 38)) (.cells #[.int .i64 5, .int .i64 5] 25)
  have b5 := blk_alloc (blk_alloc (blk_later hb B5.out) (.cells #[.int .i64 0, .int .i64 0, .string ⟨#[]⟩, .string ⟨#[]⟩, .slice A3 0 c3] 38)) (.cells #[.int .i64 5, .int .i64 5] 25)
  have b8 := blk_new1 w3 (.cells #[.int .i64 0, .int .i64 0, .string ⟨#[]⟩, .string ⟨#[]⟩, .slice A3 0 c3] 38) (.cells #[.int .i64 5, .int .i64 5] 25)
  obtain ⟨ad, A4, c4, rfl, x0, x1, x2, x3, x4, _, _⟩ := at_T38 hX 0 (by omega) (by omega)
  rw [show ad.add ((0 : Int).toNat * 5) = ad from if_pos rfl] at x0 x1 x2 x3 x4
  rw [show rd_T38 [x0Tx] 0 = x0Tx from rfl] at x0 x1 x2 x3 x4
  have z0 := (blk_cell b3 0).trans rfl
  have z4 := (blk_cell b3 4).trans rfl
  have u0 := (blk_cell b5 0).trans rfl
  have u1 := (blk_cell b5 1).trans rfl
  have v0 := (blk_cell b8 0).trans rfl
  have v1 := (blk_cell b8 1).trans rfl
  clear hb hX b3 b5 b8
  simp only [x0Tx] at x0 x1 x2 x3 x4
  go_wp2_with (fail)
  go_ret
  exact ⟨rfl, HB.out⟩

theorem typexNames_any (w : World) (ht : Tab w) : Calls Tryd.prog 9 #[] w fun e w' => e = .returned (.bool true) ∧ Below w.heap.size w w' := by
  have HC := Lib.hid (tawake_any w ht)
  go_enter Tryd.func9, Tryd.ntmps9
  go_wp2_with (fail)
  refine HC.out.mono ?_
  rintro e w1 ⟨rfl, hb1⟩
  have HB := Lib.hid hb1
  clear hb1 HC
  go_wp2_with (fail)
  go_ret
  exact ⟨rfl, HB.out⟩
end Go.Proofs.YtlmggfbpdciioaaDoor
