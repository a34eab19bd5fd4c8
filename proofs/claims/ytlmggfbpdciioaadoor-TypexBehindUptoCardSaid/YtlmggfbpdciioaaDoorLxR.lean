/- lex: awake, LexNames. -/
import Derived.Test.YtlmggfbpdciioaaDoorLxQ
namespace Go.Proofs.YtlmggfbpdciioaaDoor
open Go.RowKit PRef Go.Proofs.YtlmggfbpdciioaaDoorW.PrintWords
set_option linter.unusedVariables false

def sOne : ByteArray := ⟨#[97, 61, 61, 98, 32, 47, 47, 32, 99]⟩
def sTwo : ByteArray := ⟨#[108, 101, 116, 32, 120, 49, 61, 48, 55, 59]⟩
theorem lx_one : Lx 0 0 sOne.data.toList [⟨1, 0, 1⟩, ⟨4, 1, 3⟩, ⟨1, 3, 4⟩, ⟨0, 9, 9⟩] none := lexE_lx 10 _ _ _ _ _ (by kernel_rfl)
theorem lx_two : Lx 0 0 sTwo.data.toList [⟨5, 0, 3⟩, ⟨1, 4, 6⟩, ⟨4, 6, 7⟩] (some (7, 2)) := lexE_lx 10 _ _ _ _ _ (by kernel_rfl)

theorem all_one (w : World) (ht : Tab w) : Calls Tryd.prog 15 #[.string ⟨#[97, 61, 61, 98, 32, 47, 47, 32, 99]⟩] w fun r W => ∃ A c, r = .returned (.tuple #[.slice A 4 c, .agg #[.int .i64 0, .int .i64 0]]) ∧ Kd.C k31 W A 4 ([⟨1, 0, 1⟩, ⟨4, 1, 3⟩, ⟨1, 3, 4⟩, ⟨0, 9, 9⟩].map (tkS sOne)) ∧ Below w.heap.size w W :=
  (all_c sOne (by decide) w ht _ _ lx_one).mono fun r W ⟨A, c, hr, hc, hC, hb⟩ => ⟨A, c, hr, hC, hb⟩
theorem all_two (w : World) (ht : Tab w) : Calls Tryd.prog 15 #[.string ⟨#[108, 101, 116, 32, 120, 49, 61, 48, 55, 59]⟩] w fun r W => ∃ A c, r = .returned (.tuple #[.slice A 0 c, .agg #[.int .i64 7, .int .i64 2]]) ∧ Below w.heap.size w W :=
  (all_c sTwo (by decide) w ht _ _ lx_two).mono fun r W ⟨A, c, hr, hc, hC, hb⟩ => ⟨A, c, hr, hb⟩
theorem word_let (w : World) (ht : Tab w) : Calls Tryd.prog 18 #[.string ⟨#[108, 101, 116]⟩] w fun e w' => e = .returned (.bool true) ∧ Below w.heap.size w w' := word_any ⟨#[108, 101, 116]⟩ (by decide) w ht
theorem word_lets (w : World) (ht : Tab w) : Calls Tryd.prog 18 #[.string ⟨#[108, 101, 116, 115]⟩] w fun e w' => e = .returned (.bool false) ∧ Below w.heap.size w w' := word_any ⟨#[108, 101, 116, 115]⟩ (by decide) w ht

set_option maxRecDepth 100000 in
set_option maxHeartbeats 1000000 in
theorem awake_any (w : World) (ht : Tab w) : Calls Tryd.prog 14 #[] w fun e w' => e = .returned (.bool true) ∧ Below w.heap.size w w' := by
  have HT := Lib.hid ht
  clear ht
  go_enter Tryd.func14, Tryd.ntmps14
  go_wp2_with (fail)
  refine (all_one w HT.out).mono ?_
  rintro e w1 ⟨A, c, rfl, hC, hb1⟩
  have HC := Lib.hid hC
  have HB1 := Lib.hid hb1
  clear hC hb1
  go_wp2_with (fail)
  have HB1' := Lib.hid (bel_alloc HB1.out (.cells #[.int .i64 0, .int .i64 0] 25))
  refine (all_two _ (HT.out.later HB1'.out)).mono ?_
  rintro e w2 ⟨A2, c2, rfl, hb2⟩
  have HB2 := Lib.hid (bel_trans HB1'.out hb2)
  have hd1 := blk_later hb2 (blk_new w1 (.cells #[.int .i64 0, .int .i64 0] 25))
  have q0 := (blk_cell hd1 0).trans rfl
  have q1 := (blk_cell hd1 1).trans rfl
  have hC2 := Kd.C_below HC.out (bel_trans (bel_alloc (Below.refl _ _) _) hb2)
  have hC3 := Kd.C_below hC2 (bel_alloc (Below.refl _ _) (.cells #[.int .i64 7, .int .i64 2] 25))
  obtain ⟨ad, rfl, x0, x1, x2, x3⟩ := at_T31 hC3 1 (by omega) (by omega)
  obtain ⟨ad', ha', y0, y1, y2, y3⟩ := at_T31 hC3 3 (by omega) (by omega)
  cases ha'
  have z0 : (w2.alloc (.cells #[.int .i64 7, .int .i64 2] 25)).cell? ⟨ad.block, ad.off + 4, none⟩ = some (.int .i64 4) := x0
  have z1 : (w2.alloc (.cells #[.int .i64 7, .int .i64 2] 25)).cell? ⟨ad.block, ad.off + 4 + 1, none⟩ = some (.int .i64 1) := x1
  have z2 : (w2.alloc (.cells #[.int .i64 7, .int .i64 2] 25)).cell? ⟨ad.block, ad.off + 4 + 2, none⟩ = some (.int .i64 3) := x2
  have z3 : (w2.alloc (.cells #[.int .i64 7, .int .i64 2] 25)).cell? ⟨ad.block, ad.off + 4 + 3, none⟩ = some (.string ⟨#[61, 61]⟩) := x3
  have v1 : (w2.alloc (.cells #[.int .i64 7, .int .i64 2] 25)).cell? ⟨ad.block, ad.off + 12 + 1, none⟩ = some (.int .i64 9) := y1
  have q0' : (w2.alloc (.cells #[.int .i64 7, .int .i64 2] 25)).cell? ⟨w1.heap.size, 0, none⟩ = some (.int .i64 0) := (blk_cell (blk_alloc hd1 _) 0).trans rfl
  have q1' : (w2.alloc (.cells #[.int .i64 7, .int .i64 2] 25)).cell? ⟨w1.heap.size, 1, none⟩ = some (.int .i64 0) := (blk_cell (blk_alloc hd1 _) 1).trans rfl
  have HW1 := Lib.hid (fun W (h : Below w2.heap.size w2 W) => word_let W (HT.out.later (bel_trans HB2.out h)))
  have HW2 := Lib.hid (fun W (h : Below w2.heap.size w2 W) => word_lets W (HT.out.later (bel_trans HB2.out h)))
  clear hb2 hd1 hC2 hC3 HB1' HB1 HC x0 x1 x2 x3 y0 y1 y2 y3 q0 q1
  go_wp2_with (fail)
  refine (HW1.out _ (bel_alloc (Below.refl _ _) _)).mono ?_
  rintro e w3 ⟨rfl, hb3⟩
  have HB3 := Lib.hid (bel_trans (bel_alloc (Below.refl _ _) (.cells #[.int .i64 7, .int .i64 2] 25)) hb3)
  clear hb3
  go_wp2_with (fail)
  refine (HW2.out _ HB3.out).mono ?_
  rintro e w4 ⟨rfl, hb4⟩
  have HB4 := Lib.hid (bel_trans HB2.out (bel_trans HB3.out hb4))
  clear hb4
  go_wp2_with (fail)
  go_ret
  exact ⟨rfl, HB4.out⟩

theorem lexNames_any (w : World) (ht : Tab w) : Calls Tryd.prog 3 #[] w fun e w' => e = .returned (.bool true) ∧ Below w.heap.size w w' := by
  have HC := Lib.hid (awake_any w ht)
  go_enter Tryd.func3, Tryd.ntmps3
  go_wp2_with (fail)
  refine HC.out.mono ?_
  rintro e w1 ⟨rfl, hb1⟩
  have HB := Lib.hid hb1
  clear hb1 HC
  go_wp2_with (fail)
  go_ret
  exact ⟨rfl, HB.out⟩
end Go.Proofs.YtlmggfbpdciioaaDoor
