/- typex: the document's deep, way by way. -/
import Derived.Test.YtlmggfbpdciioaaDoorTxB
namespace Go.Proofs.YtlmggfbpdciioaaDoor
open Go.RowKit PRef Go.Proofs.YtlmggfbpdciioaaDoorW.PrintWords
set_option linter.unusedVariables false
set_option linter.unusedSimpArgs false

set_option maxRecDepth 100000 in
set_option maxHeartbeats 4000000 in
theorem deep_int (A : Option Addr) (c : Nat) (L : List S31) (a l : Int) (hl : L.length ≤ 140737488351232) (h0 : 0 ≤ a) (h1 : a ≤ 140737488351233) (w : World) (t1 t2 : Int) (H1 : Hid (∀ w', Below w.heap.size w w' → Calls Tryd.prog 34 #[.slice A L.length c, .int .i64 a] w' fun e w'' => e = .returned (.agg #[.int .i64 5, .int .i64 t1, .int .i64 t2, .string ⟨#[105, 110, 116]⟩]) ∧ Below w'.heap.size w' w'')) :
    Calls Tryd.prog 35 #[.slice A L.length c, .int .i64 a, .int .i64 l] w (OutR (⟨1, t1, ⟨#[]⟩, ⟨#[]⟩, []⟩, a + 1, 0, 0) w) := by
  have HB := Lib.hid (bel_alloc (bel_alloc (Below.refl w.heap.size w) box38) box25)
  have R := Lib.hid (blk_alloc (blk_new w box38) box25)
  have S := Lib.hid (blk_new1 w box38 box25)
  go_enter Tryd.func35, Tryd.ntmps35
  go_wp2_with (fail)
  refine (H1.out _ HB.out).mono ?_
  rintro e1 w1 ⟨rfl, hb⟩
  replace HB := Lib.hid (bel_alloc (bel_trans HB.out hb) (.cells #[.int .i64 5, .int .i64 t1, .int .i64 t2, .string ⟨#[105, 110, 116]⟩] 31))
  replace R := Lib.hid (blk_alloc (blk_later hb R.out) (.cells #[.int .i64 5, .int .i64 t1, .int .i64 t2, .string ⟨#[105, 110, 116]⟩] 31))
  replace S := Lib.hid (blk_alloc (blk_later hb S.out) (.cells #[.int .i64 5, .int .i64 t1, .int .i64 t2, .string ⟨#[105, 110, 116]⟩] 31))
  have K := Lib.hid (blk_new w1 (.cells #[.int .i64 5, .int .i64 t1, .int .i64 t2, .string ⟨#[105, 110, 116]⟩] 31))
  clear hb
  have y0 := (blk_cell K.out 0).trans rfl
  have y1 := (blk_cell K.out 1).trans rfl
  have y2 := (blk_cell K.out 2).trans rfl
  have y3 := (blk_cell K.out 3).trans rfl
  have R1 := R.out
  have S1 := S.out
  have r0 := (blk_cell R1 0).trans rfl
  have r1 := (blk_cell R1 1).trans rfl
  have r2 := (blk_cell R1 2).trans rfl
  have r3 := (blk_cell R1 3).trans rfl
  have r4 := (blk_cell R1 4).trans rfl
  have f0 := blk_free R1 0
  have f1 := blk_free R1 1
  have f2 := blk_free R1 2
  have f3 := blk_free R1 3
  have f4 := blk_free R1 4
  have s0 := (blk_cell S1 0).trans rfl
  have s1 := (blk_cell S1 1).trans rfl
  have g0 := blk_free S1 0
  have g1 := blk_free S1 1
  clear R1 S1
  go_wp2_with (fail)
  exact out_end rfl R.out S.out HB.out rfl rfl rfl rfl (Nat.zero_le _) (F_nil' _ _ _) _ rfl
set_option maxRecDepth 100000 in
set_option maxHeartbeats 4000000 in
theorem deep_bool (A : Option Addr) (c : Nat) (L : List S31) (a l : Int) (hl : L.length ≤ 140737488351232) (h0 : 0 ≤ a) (h1 : a ≤ 140737488351233) (w : World) (t1 t2 : Int) (H1 : Hid (∀ w', Below w.heap.size w w' → Calls Tryd.prog 34 #[.slice A L.length c, .int .i64 a] w' fun e w'' => e = .returned (.agg #[.int .i64 5, .int .i64 t1, .int .i64 t2, .string ⟨#[98, 111, 111, 108]⟩]) ∧ Below w'.heap.size w' w'')) :
    Calls Tryd.prog 35 #[.slice A L.length c, .int .i64 a, .int .i64 l] w (OutR (⟨2, t1, ⟨#[]⟩, ⟨#[]⟩, []⟩, a + 1, 0, 0) w) := by
  have HB := Lib.hid (bel_alloc (bel_alloc (Below.refl w.heap.size w) box38) box25)
  have R := Lib.hid (blk_alloc (blk_new w box38) box25)
  have S := Lib.hid (blk_new1 w box38 box25)
  go_enter Tryd.func35, Tryd.ntmps35
  go_wp2_with (fail)
  refine (H1.out _ HB.out).mono ?_
  rintro e1 w1 ⟨rfl, hb⟩
  replace HB := Lib.hid (bel_alloc (bel_trans HB.out hb) (.cells #[.int .i64 5, .int .i64 t1, .int .i64 t2, .string ⟨#[98, 111, 111, 108]⟩] 31))
  replace R := Lib.hid (blk_alloc (blk_later hb R.out) (.cells #[.int .i64 5, .int .i64 t1, .int .i64 t2, .string ⟨#[98, 111, 111, 108]⟩] 31))
  replace S := Lib.hid (blk_alloc (blk_later hb S.out) (.cells #[.int .i64 5, .int .i64 t1, .int .i64 t2, .string ⟨#[98, 111, 111, 108]⟩] 31))
  have K := Lib.hid (blk_new w1 (.cells #[.int .i64 5, .int .i64 t1, .int .i64 t2, .string ⟨#[98, 111, 111, 108]⟩] 31))
  clear hb
  have y0 := (blk_cell K.out 0).trans rfl
  have y1 := (blk_cell K.out 1).trans rfl
  have y2 := (blk_cell K.out 2).trans rfl
  have y3 := (blk_cell K.out 3).trans rfl
  have R1 := R.out
  have S1 := S.out
  have r0 := (blk_cell R1 0).trans rfl
  have r1 := (blk_cell R1 1).trans rfl
  have r2 := (blk_cell R1 2).trans rfl
  have r3 := (blk_cell R1 3).trans rfl
  have r4 := (blk_cell R1 4).trans rfl
  have f0 := blk_free R1 0
  have f1 := blk_free R1 1
  have f2 := blk_free R1 2
  have f3 := blk_free R1 3
  have f4 := blk_free R1 4
  have s0 := (blk_cell S1 0).trans rfl
  have s1 := (blk_cell S1 1).trans rfl
  have g0 := blk_free S1 0
  have g1 := blk_free S1 1
  clear R1 S1
  go_wp2_with (fail)
  exact out_end rfl R.out S.out HB.out rfl rfl rfl rfl (Nat.zero_le _) (F_nil' _ _ _) _ rfl
set_option maxRecDepth 100000 in
set_option maxHeartbeats 4000000 in
theorem deep_text (A : Option Addr) (c : Nat) (L : List S31) (a l : Int) (hl : L.length ≤ 140737488351232) (h0 : 0 ≤ a) (h1 : a ≤ 140737488351233) (w : World) (t1 t2 : Int) (H1 : Hid (∀ w', Below w.heap.size w w' → Calls Tryd.prog 34 #[.slice A L.length c, .int .i64 a] w' fun e w'' => e = .returned (.agg #[.int .i64 5, .int .i64 t1, .int .i64 t2, .string ⟨#[116, 101, 120, 116]⟩]) ∧ Below w'.heap.size w' w'')) :
    Calls Tryd.prog 35 #[.slice A L.length c, .int .i64 a, .int .i64 l] w (OutR (⟨3, t1, ⟨#[]⟩, ⟨#[]⟩, []⟩, a + 1, 0, 0) w) := by
  have HB := Lib.hid (bel_alloc (bel_alloc (Below.refl w.heap.size w) box38) box25)
  have R := Lib.hid (blk_alloc (blk_new w box38) box25)
  have S := Lib.hid (blk_new1 w box38 box25)
  go_enter Tryd.func35, Tryd.ntmps35
  go_wp2_with (fail)
  refine (H1.out _ HB.out).mono ?_
  rintro e1 w1 ⟨rfl, hb⟩
  replace HB := Lib.hid (bel_alloc (bel_trans HB.out hb) (.cells #[.int .i64 5, .int .i64 t1, .int .i64 t2, .string ⟨#[116, 101, 120, 116]⟩] 31))
  replace R := Lib.hid (blk_alloc (blk_later hb R.out) (.cells #[.int .i64 5, .int .i64 t1, .int .i64 t2, .string ⟨#[116, 101, 120, 116]⟩] 31))
  replace S := Lib.hid (blk_alloc (blk_later hb S.out) (.cells #[.int .i64 5, .int .i64 t1, .int .i64 t2, .string ⟨#[116, 101, 120, 116]⟩] 31))
  have K := Lib.hid (blk_new w1 (.cells #[.int .i64 5, .int .i64 t1, .int .i64 t2, .string ⟨#[116, 101, 120, 116]⟩] 31))
  clear hb
  have y0 := (blk_cell K.out 0).trans rfl
  have y1 := (blk_cell K.out 1).trans rfl
  have y2 := (blk_cell K.out 2).trans rfl
  have y3 := (blk_cell K.out 3).trans rfl
  have R1 := R.out
  have S1 := S.out
  have r0 := (blk_cell R1 0).trans rfl
  have r1 := (blk_cell R1 1).trans rfl
  have r2 := (blk_cell R1 2).trans rfl
  have r3 := (blk_cell R1 3).trans rfl
  have r4 := (blk_cell R1 4).trans rfl
  have f0 := blk_free R1 0
  have f1 := blk_free R1 1
  have f2 := blk_free R1 2
  have f3 := blk_free R1 3
  have f4 := blk_free R1 4
  have s0 := (blk_cell S1 0).trans rfl
  have s1 := (blk_cell S1 1).trans rfl
  have g0 := blk_free S1 0
  have g1 := blk_free S1 1
  clear R1 S1
  go_wp2_with (fail)
  exact out_end rfl R.out S.out HB.out rfl rfl rfl rfl (Nat.zero_le _) (F_nil' _ _ _) _ rfl
set_option maxRecDepth 100000 in
set_option maxHeartbeats 4000000 in
theorem deep_other (A : Option Addr) (c : Nat) (L : List S31) (a l : Int) (hl : L.length ≤ 140737488351232) (h0 : 0 ≤ a) (h1 : a ≤ 140737488351233) (w : World) (t0 t1 t2 : Int) (t3 : ByteArray) (n5 : ¬ t0 = 5) (n1 : ¬ t0 = 1) (H1 : Hid (∀ w', Below w.heap.size w w' → Calls Tryd.prog 34 #[.slice A L.length c, .int .i64 a] w' fun e w'' => e = .returned (.agg #[.int .i64 t0, .int .i64 t1, .int .i64 t2, .string t3]) ∧ Below w'.heap.size w' w'')) (H2 : Hid (∀ w', Calls Tryd.prog 46 #[.agg #[.int .i64 t0, .int .i64 t1, .int .i64 t2, .string t3], .int .i64 4, .string ⟨#[91]⟩] w' fun e w'' => e = .returned (.bool false) ∧ Below w'.heap.size w' w'')) (H3 : Hid (∀ w', Calls Tryd.prog 33 #[.agg #[.int .i64 t0, .int .i64 t1, .int .i64 t2, .string t3], .int .i64 5] w' fun e W => ∃ A m, e = .returned (.tuple #[.agg #[.int .i64 0, .int .i64 0, .string ⟨#[]⟩, .string ⟨#[]⟩, .slice A 0 m], .int .i64 0, .agg #[.int .i64 t1, .int .i64 5]]) ∧ Below w'.heap.size w' W)) :
    Calls Tryd.prog 35 #[.slice A L.length c, .int .i64 a, .int .i64 l] w (OutR (z38, 0, t1, 5) w) := by
  have HB := Lib.hid (bel_alloc (bel_alloc (Below.refl w.heap.size w) box38) box25)
  have R := Lib.hid (blk_alloc (blk_new w box38) box25)
  have S := Lib.hid (blk_new1 w box38 box25)
  go_enter Tryd.func35, Tryd.ntmps35
  go_wp2_with (fail)
  refine (H1.out _ HB.out).mono ?_
  rintro e1 w1 ⟨rfl, hb⟩
  replace HB := Lib.hid (bel_alloc (bel_trans HB.out hb) (.cells #[.int .i64 t0, .int .i64 t1, .int .i64 t2, .string t3] 31))
  replace R := Lib.hid (blk_alloc (blk_later hb R.out) (.cells #[.int .i64 t0, .int .i64 t1, .int .i64 t2, .string t3] 31))
  replace S := Lib.hid (blk_alloc (blk_later hb S.out) (.cells #[.int .i64 t0, .int .i64 t1, .int .i64 t2, .string t3] 31))
  have K := Lib.hid (blk_new w1 (.cells #[.int .i64 t0, .int .i64 t1, .int .i64 t2, .string t3] 31))
  clear hb
  have e5 : (t0 == 5) = false := beq_eq_false_iff_ne.2 n5
  have e1' : (t0 == 1) = false := beq_eq_false_iff_ne.2 n1
  have y0 := (blk_cell K.out 0).trans rfl
  have y1 := (blk_cell K.out 1).trans rfl
  have y2 := (blk_cell K.out 2).trans rfl
  have y3 := (blk_cell K.out 3).trans rfl
  go_wp2_with (fail)
  clear y0 y1 y2 y3
  refine (H2.out _).mono ?_
  rintro e2 w2 ⟨rfl, hb⟩
  replace HB := Lib.hid (bel_trans HB.out hb)
  replace R := Lib.hid (blk_later hb R.out)
  replace S := Lib.hid (blk_later hb S.out)
  replace K := Lib.hid (blk_later hb K.out)
  clear hb
  have y0 := (blk_cell K.out 0).trans rfl
  have y1 := (blk_cell K.out 1).trans rfl
  have y2 := (blk_cell K.out 2).trans rfl
  have y3 := (blk_cell K.out 3).trans rfl
  go_wp2_with (fail)
  clear y0 y1 y2 y3
  refine (H3.out _).mono ?_
  rintro e3 w3 ⟨A', m', rfl, hb⟩
  replace HB := Lib.hid (bel_trans HB.out hb)
  replace R := Lib.hid (blk_later hb R.out)
  replace S := Lib.hid (blk_later hb S.out)
  replace K := Lib.hid (blk_later hb K.out)
  clear hb
  have R1 := R.out
  have S1 := S.out
  have r0 := (blk_cell R1 0).trans rfl
  have r1 := (blk_cell R1 1).trans rfl
  have r2 := (blk_cell R1 2).trans rfl
  have r3 := (blk_cell R1 3).trans rfl
  have r4 := (blk_cell R1 4).trans rfl
  have f0 := blk_free R1 0
  have f1 := blk_free R1 1
  have f2 := blk_free R1 2
  have f3 := blk_free R1 3
  have f4 := blk_free R1 4
  have s0 := (blk_cell S1 0).trans rfl
  have s1 := (blk_cell S1 1).trans rfl
  have g0 := blk_free S1 0
  have g1 := blk_free S1 1
  clear R1 S1
  go_wp2_with (fail)
  exact out_end rfl R.out S.out HB.out rfl rfl rfl rfl (Nat.zero_le _) (F_nil' _ _ _) _ rfl
set_option maxRecDepth 100000 in
set_option maxHeartbeats 4000000 in
theorem deep_deep (A : Option Addr) (c : Nat) (L : List S31) (a l : Int) (hl : L.length ≤ 140737488351232) (h0 : 0 ≤ a) (h1 : a ≤ 140737488351233) (w : World) (t0 t1 t2 : Int) (t3 : ByteArray) (n5 : ¬ t0 = 5) (n1 : ¬ t0 = 1) (hd : 30 ≤ l) (H1 : Hid (∀ w', Below w.heap.size w w' → Calls Tryd.prog 34 #[.slice A L.length c, .int .i64 a] w' fun e w'' => e = .returned (.agg #[.int .i64 t0, .int .i64 t1, .int .i64 t2, .string t3]) ∧ Below w'.heap.size w' w'')) (H2 : Hid (∀ w', Calls Tryd.prog 46 #[.agg #[.int .i64 t0, .int .i64 t1, .int .i64 t2, .string t3], .int .i64 4, .string ⟨#[91]⟩] w' fun e w'' => e = .returned (.bool true) ∧ Below w'.heap.size w' w'')) (H3 : Hid (∀ w', Calls Tryd.prog 33 #[.agg #[.int .i64 t0, .int .i64 t1, .int .i64 t2, .string t3], .int .i64 6] w' fun e W => ∃ A m, e = .returned (.tuple #[.agg #[.int .i64 0, .int .i64 0, .string ⟨#[]⟩, .string ⟨#[]⟩, .slice A 0 m], .int .i64 0, .agg #[.int .i64 t1, .int .i64 6]]) ∧ Below w'.heap.size w' W)) :
    Calls Tryd.prog 35 #[.slice A L.length c, .int .i64 a, .int .i64 l] w (OutR (z38, 0, t1, 6) w) := by
  have HB := Lib.hid (bel_alloc (bel_alloc (Below.refl w.heap.size w) box38) box25)
  have R := Lib.hid (blk_alloc (blk_new w box38) box25)
  have S := Lib.hid (blk_new1 w box38 box25)
  go_enter Tryd.func35, Tryd.ntmps35
  go_wp2_with (fail)
  refine (H1.out _ HB.out).mono ?_
  rintro e1 w1 ⟨rfl, hb⟩
  replace HB := Lib.hid (bel_alloc (bel_trans HB.out hb) (.cells #[.int .i64 t0, .int .i64 t1, .int .i64 t2, .string t3] 31))
  replace R := Lib.hid (blk_alloc (blk_later hb R.out) (.cells #[.int .i64 t0, .int .i64 t1, .int .i64 t2, .string t3] 31))
  replace S := Lib.hid (blk_alloc (blk_later hb S.out) (.cells #[.int .i64 t0, .int .i64 t1, .int .i64 t2, .string t3] 31))
  have K := Lib.hid (blk_new w1 (.cells #[.int .i64 t0, .int .i64 t1, .int .i64 t2, .string t3] 31))
  clear hb
  have e5 : (t0 == 5) = false := beq_eq_false_iff_ne.2 n5
  have e1' : (t0 == 1) = false := beq_eq_false_iff_ne.2 n1
  have y0 := (blk_cell K.out 0).trans rfl
  have y1 := (blk_cell K.out 1).trans rfl
  have y2 := (blk_cell K.out 2).trans rfl
  have y3 := (blk_cell K.out 3).trans rfl
  go_wp2_with (fail)
  clear y0 y1 y2 y3
  refine (H2.out _).mono ?_
  rintro e2 w2 ⟨rfl, hb⟩
  replace HB := Lib.hid (bel_trans HB.out hb)
  replace R := Lib.hid (blk_later hb R.out)
  replace S := Lib.hid (blk_later hb S.out)
  replace K := Lib.hid (blk_later hb K.out)
  clear hb
  have y0 := (blk_cell K.out 0).trans rfl
  have y1 := (blk_cell K.out 1).trans rfl
  have y2 := (blk_cell K.out 2).trans rfl
  have y3 := (blk_cell K.out 3).trans rfl
  go_wp2_with (fail)
  clear y0 y1 y2 y3
  refine (H3.out _).mono ?_
  rintro e3 w3 ⟨A', m', rfl, hb⟩
  replace HB := Lib.hid (bel_trans HB.out hb)
  replace R := Lib.hid (blk_later hb R.out)
  replace S := Lib.hid (blk_later hb S.out)
  replace K := Lib.hid (blk_later hb K.out)
  clear hb
  have R1 := R.out
  have S1 := S.out
  have r0 := (blk_cell R1 0).trans rfl
  have r1 := (blk_cell R1 1).trans rfl
  have r2 := (blk_cell R1 2).trans rfl
  have r3 := (blk_cell R1 3).trans rfl
  have r4 := (blk_cell R1 4).trans rfl
  have f0 := blk_free R1 0
  have f1 := blk_free R1 1
  have f2 := blk_free R1 2
  have f3 := blk_free R1 3
  have f4 := blk_free R1 4
  have s0 := (blk_cell S1 0).trans rfl
  have s1 := (blk_cell S1 1).trans rfl
  have g0 := blk_free S1 0
  have g1 := blk_free S1 1
  clear R1 S1
  go_wp2_with (fail)
  exact out_end rfl R.out S.out HB.out rfl rfl rfl rfl (Nat.zero_le _) (F_nil' _ _ _) _ rfl
end Go.Proofs.YtlmggfbpdciioaaDoor
