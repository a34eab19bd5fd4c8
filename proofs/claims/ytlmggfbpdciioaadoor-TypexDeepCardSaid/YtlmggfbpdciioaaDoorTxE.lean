/- typex: the document's deep, way by way. -/
import Derived.Test.YtlmggfbpdciioaaDoorTxD
namespace Go.Proofs.YtlmggfbpdciioaaDoor
open Go.RowKit PRef Go.Proofs.YtlmggfbpdciioaaDoorW.PrintWords
set_option linter.unusedVariables false
set_option linter.unusedSimpArgs false

theorem F_one {W : World} {ok : Nat → Prop} {g : Nat} {x : S38} {A' : Option Addr} {m' : Nat} (hg : ok g) (hrow : W.heap[g]? = some (.cells #[.int .i64 x.f0, .int .i64 x.f1, .string x.f2, .string x.f3, .slice A' x.f4.length m'] 38 (0, 0))) (hm : x.f4.length ≤ m')
    (hF : Kd.F k38 W ok A' x.f4.length x.f4) : Kd.F k38 W ok (some ⟨g, 0, none⟩) [x].length [x] := by
  intro W' hW
  have h0 := (hW g hg (blk_lt hrow)).trans hrow
  refine ⟨rfl, by show (1 : Nat) ≤ _; decide, fun _ => ⟨⟨g, 0, none⟩, rfl, fun j p hj => ?_⟩⟩
  rcases j with _ | j
  · obtain rfl : x = p := by simpa using hj
    refine ⟨[.int .i64 x.f0, .int .i64 x.f1, .string x.f2, .string x.f3, .slice A' x.f4.length m'], rfl, k38_mk W' x hm (hF W' hW), fun i u hu => ?_⟩
    have hc : W'.cell? ⟨g, i, none⟩ = some u := by
      rw [blk_cell h0 i]
      exact (by simpa using hu)
    have ha : (⟨g, 0, none⟩ : Addr).add (0 * k38.sz + i) = ⟨g, i, none⟩ := by
      unfold Addr.add
      by_cases hi : i = 0
      · subst hi; simp
      · simp [hi]
    rw [ha]; exact hc
  · simp at hj
/-- The end: what is handed back is laid into its variables. -/
theorem out_end_drew {fn : Func} {p q r : Tmp} (hr : fn.results = #[.cell p 38, .tmp q, .cell r 25]) {w W : World} {u0 u1 u2 u3 u4 d0 d1 : Value} (R1 : W.heap[w.heap.size]? = some (.cells #[u0, u1, u2, u3, u4] 38 (0, 0))) (S1 : W.heap[w.heap.size + 1]? = some (.cells #[d0, d1] 25 (0, 0)))
    (HB : Below w.heap.size w W) {k t : Int} {s2 s3 : ByteArray} {A : Option Addr} {c : Nat} {l : List S38} {n da dc : Int} {a : Act} (hp : a.tmps.getD p undef = .pointer (some ⟨w.heap.size, 0, none⟩)) (hg : a.tmps.getD r undef = .pointer (some ⟨w.heap.size + 1, 0, none⟩))
    (hq : a.tmps.getD q undef = .int .i64 n) (hd : a.defers = []) (hc : l.length ≤ c) (hF : Kd.F k38 W (fun k => w.heap.size + 2 ≤ k) A l.length l) (x : TyR) (hx : x = (⟨k, t, s2, s3, l⟩, n, da, dc)) :
    bodyPost Tryd.prog fn (OutR x w) .ret a (((((((W.setCell ⟨w.heap.size, 0, none⟩ (.int .i64 k)).setCell ⟨w.heap.size, 1, none⟩ (.int .i64 t)).setCell ⟨w.heap.size, 2, none⟩ (.string s2)).setCell ⟨w.heap.size, 3, none⟩ (.string s3)).setCell ⟨w.heap.size, 4, none⟩ (.slice A l.length c)).setCell ⟨w.heap.size + 1, 0, none⟩ (.int .i64 da)).setCell ⟨w.heap.size + 1, 1, none⟩ (.int .i64 dc)).drew := by
  subst hx
  have hR := set5 (.int .i64 k) (.int .i64 t) (.string s2) (.string s3) (.slice A l.length c) R1
  have hS : (((((W.setCell ⟨w.heap.size, 0, none⟩ (.int .i64 k)).setCell ⟨w.heap.size, 1, none⟩ (.int .i64 t)).setCell ⟨w.heap.size, 2, none⟩ (.string s2)).setCell ⟨w.heap.size, 3, none⟩ (.string s3)).setCell ⟨w.heap.size, 4, none⟩ (.slice A l.length c)).heap[w.heap.size + 1]? = some (.cells #[d0, d1] 25 (0, 0)) := by
    rw [blk_far _ _ _ _ _ (by omega), blk_far _ _ _ _ _ (by omega), blk_far _ _ _ _ _ (by omega), blk_far _ _ _ _ _ (by omega), blk_far _ _ _ _ _ (by omega)]
    exact S1
  have hB := bel_put (bel_put (bel_put (bel_put (bel_put HB w.heap.size 0 (.int .i64 k) (Nat.le_refl _)) w.heap.size 1 (.int .i64 t) (Nat.le_refl _)) w.heap.size 2 (.string s2) (Nat.le_refl _)) w.heap.size 3 (.string s3) (Nat.le_refl _)) w.heap.size 4 (.slice A l.length c) (Nat.le_refl _)
  have hG := Kd.F_far (Kd.F_far (Kd.F_far (Kd.F_far (Kd.F_far hF (p := ⟨w.heap.size, 0, none⟩) (fun k h => by simp only; omega) (.int .i64 k)) (p := ⟨w.heap.size, 1, none⟩) (fun k h => by simp only; omega) (.int .i64 t)) (p := ⟨w.heap.size, 2, none⟩) (fun k h => by simp only; omega) (.string s2)) (p := ⟨w.heap.size, 3, none⟩) (fun k h => by simp only; omega) (.string s3)) (p := ⟨w.heap.size, 4, none⟩) (fun k h => by simp only; omega) (.slice A l.length c)
  generalize ((((W.setCell ⟨w.heap.size, 0, none⟩ (.int .i64 k)).setCell ⟨w.heap.size, 1, none⟩ (.int .i64 t)).setCell ⟨w.heap.size, 2, none⟩ (.string s2)).setCell ⟨w.heap.size, 3, none⟩ (.string s3)).setCell ⟨w.heap.size, 4, none⟩ (.slice A l.length c) = V at *
  have hR' := (blk_far (V.setCell ⟨w.heap.size + 1, 0, none⟩ (.int .i64 da)) (w.heap.size + 1) 1 w.heap.size (.int .i64 dc) (by omega)).trans ((blk_far V (w.heap.size + 1) 0 w.heap.size (.int .i64 da) (by omega)).trans hR)
  refine ty_end (W := ((V.setCell ⟨w.heap.size + 1, 0, none⟩ (.int .i64 da)).setCell ⟨w.heap.size + 1, 1, none⟩ (.int .i64 dc)).drew) hr hR' (set2 (.int .i64 da) (.int .i64 dc) hS) hp hg hq hd ⟨A, c, rfl, hc, ?_, ?_⟩
  · exact Kd.F_drew (Kd.F_mono (Kd.F_far (Kd.F_far hG (p := ⟨w.heap.size + 1, 0, none⟩) (fun k h => by simp only; omega) (.int .i64 da)) (p := ⟨w.heap.size + 1, 1, none⟩) (fun k h => by simp only; omega) (.int .i64 dc)) (fun k h => Nat.le_trans (Nat.le_add_right _ _) h))
  · exact bel_drew (bel_put (bel_put hB _ _ _ (by omega)) _ _ _ (by omega))
set_option maxRecDepth 100000 in
set_option maxHeartbeats 4000000 in
theorem deep_listbad (A : Option Addr) (c : Nat) (L : List S31) (a l : Int) (hl : L.length ≤ 140737488351232) (h0 : 0 ≤ a) (h1 : a ≤ 140737488351233) (w : World) (t0 t1 t2 : Int) (t3 : ByteArray) (u0 u1 u2 : Int) (u3 : ByteArray) (x : S38) (n da dc : Int) (hne : ¬ dc = 0) (n5 : ¬ t0 = 5) (n1 : ¬ t0 = 1) (hd : l < 30) (hd0 : 0 ≤ l) (H1 : Hid (∀ w', Below w.heap.size w w' → Calls Tryd.prog 34 #[.slice A L.length c, .int .i64 a] w' fun e w'' => e = .returned (.agg #[.int .i64 t0, .int .i64 t1, .int .i64 t2, .string t3]) ∧ Below w'.heap.size w' w'')) (H2 : Hid (∀ w', Calls Tryd.prog 46 #[.agg #[.int .i64 t0, .int .i64 t1, .int .i64 t2, .string t3], .int .i64 4, .string ⟨#[91]⟩] w' fun e w'' => e = .returned (.bool true) ∧ Below w'.heap.size w' w'')) (H3 : Hid (∀ w', Below w.heap.size w w' → Calls Tryd.prog 34 #[.slice A L.length c, .int .i64 (a + 1)] w' fun e w'' => e = .returned (.agg #[.int .i64 u0, .int .i64 u1, .int .i64 u2, .string u3]) ∧ Below w'.heap.size w' w'')) (H4 : Hid (∀ w', Calls Tryd.prog 46 #[.agg #[.int .i64 u0, .int .i64 u1, .int .i64 u2, .string u3], .int .i64 4, .string ⟨#[93]⟩] w' fun e w'' => e = .returned (.bool true) ∧ Below w'.heap.size w' w'')) (H5 : Hid (∀ w', Below w.heap.size w w' → Calls Tryd.prog 35 #[.slice A L.length c, .int .i64 (a + 2), .int .i64 (l + 1)] w' (OutR (x, n, da, dc) w'))) :
    Calls Tryd.prog 35 #[.slice A L.length c, .int .i64 a, .int .i64 l] w (OutR (z38, 0, da, dc) w) := by
  have HB := Lib.hid (bel_alloc (bel_alloc (Below.refl w.heap.size w) box38) box25)
  have R := Lib.hid (blk_alloc (blk_new w box38) box25)
  have S := Lib.hid (blk_new1 w box38 box25)
  go_enter Tryd.func35, Tryd.ntmps35
  go_wp2_with (fail)
  refine (H1.out _ HB.out).mono ?_
  rintro e1 w1 ⟨rfl, hb⟩
  replace HB := Lib.hid (bel_alloc (bel_trans HB.out hb) (.cells #[.int .i64 t0, .int .i64 t1, .int .i64 t2, .string t3] 31))
  replace R := Lib.hid (blk_alloc (blk_later hb R.out) (.cells #[.int .i64 t0, .int .i64 t1, .int .i64 t2, .string t3] 31))
  replace S := Lib.hid (blk_alloc (blk_later hb S.out) (.cells #[.int .i64 t0, .int .i64 t1, .int .i64 t2, .string t3] 31))
  have K := Lib.hid (blk_new w1 (.cells #[.int .i64 t0, .int .i64 t1, .int .i64 t2, .string t3] 31))
  clear hb
  have e5 : (t0 == 5) = false := beq_eq_false_iff_ne.2 n5
  have e1' : (t0 == 1) = false := beq_eq_false_iff_ne.2 n1
  have e30 : ¬ 30 ≤ l := by omega
  have y0 := (blk_cell K.out 0).trans rfl
  have y1 := (blk_cell K.out 1).trans rfl
  have y2 := (blk_cell K.out 2).trans rfl
  have y3 := (blk_cell K.out 3).trans rfl
  go_wp2_with (fail)
  clear y0 y1 y2 y3
  refine (H2.out _).mono ?_
  rintro e2 w2 ⟨rfl, hb⟩
  replace HB := Lib.hid (bel_trans HB.out hb)
  replace R := Lib.hid (blk_later hb R.out)
  replace S := Lib.hid (blk_later hb S.out)
  replace K := Lib.hid (blk_later hb K.out)
  clear hb
  go_wp2_with (fail)
  refine (H3.out _ HB.out).mono ?_
  rintro e3 w3 ⟨rfl, hb⟩
  replace HB := Lib.hid (bel_trans HB.out hb)
  replace R := Lib.hid (blk_later hb R.out)
  replace S := Lib.hid (blk_later hb S.out)
  replace K := Lib.hid (blk_later hb K.out)
  clear hb
  go_wp2_with (fail)
  refine (H4.out _).mono ?_
  rintro e4 w4 ⟨rfl, hb⟩
  replace HB := Lib.hid (bel_trans HB.out hb)
  replace R := Lib.hid (blk_later hb R.out)
  replace S := Lib.hid (blk_later hb S.out)
  replace K := Lib.hid (blk_later hb K.out)
  clear hb
  have SZ := Lib.hid (blk_lt S.out)
  go_wp2_with (fail)
  have Z5 := Lib.hid (Nat.lt_of_lt_of_le (blk_lt S.out) (Nat.le_refl w4.heap.size))
  refine (H5.out _ HB.out).mono ?_
  rintro e5 w5 ⟨A', m', rfl, hm, hF, hb⟩
  have HF := Lib.hid hF
  have HM := Lib.hid hm
  replace HB := Lib.hid (bel_alloc (bel_alloc (bel_trans HB.out hb) (.cells #[.int .i64 x.f0, .int .i64 x.f1, .string x.f2, .string x.f3, .slice A' x.f4.length m'] 38)) (.cells #[.int .i64 da, .int .i64 dc] 25))
  replace R := Lib.hid (blk_alloc (blk_alloc (blk_later hb R.out) (.cells #[.int .i64 x.f0, .int .i64 x.f1, .string x.f2, .string x.f3, .slice A' x.f4.length m'] 38)) (.cells #[.int .i64 da, .int .i64 dc] 25))
  replace S := Lib.hid (blk_alloc (blk_alloc (blk_later hb S.out) (.cells #[.int .i64 x.f0, .int .i64 x.f1, .string x.f2, .string x.f3, .slice A' x.f4.length m'] 38)) (.cells #[.int .i64 da, .int .i64 dc] 25))
  replace K := Lib.hid (blk_alloc (blk_alloc (blk_later hb K.out) (.cells #[.int .i64 x.f0, .int .i64 x.f1, .string x.f2, .string x.f3, .slice A' x.f4.length m'] 38)) (.cells #[.int .i64 da, .int .i64 dc] 25))
  have X := Lib.hid (blk_alloc (blk_new w5 (.cells #[.int .i64 x.f0, .int .i64 x.f1, .string x.f2, .string x.f3, .slice A' x.f4.length m'] 38)) (.cells #[.int .i64 da, .int .i64 dc] 25))
  have D := Lib.hid (blk_new1 w5 (.cells #[.int .i64 x.f0, .int .i64 x.f1, .string x.f2, .string x.f3, .slice A' x.f4.length m'] 38) (.cells #[.int .i64 da, .int .i64 dc] 25))
  have SB := Lib.hid hb.size
  clear hb hF hm
  have d0 := (blk_cell D.out 0).trans rfl
  have d1 := (blk_cell D.out 1).trans rfl
  have e9 : (dc == 0) = false := beq_eq_false_iff_ne.2 hne
  have SBo := SB.out
  have Z5o := Z5.out
  have a1 : ¬ w5.heap.size + 1 = w.heap.size := by omega
  have a2 : ¬ w.heap.size = w5.heap.size + 1 := by omega
  have a3 : ¬ w5.heap.size = w.heap.size := by omega
  have a4 : ¬ w.heap.size = w5.heap.size := by omega
  have a5 : ¬ w5.heap.size = w.heap.size + 1 := by omega
  have a6 : ¬ w.heap.size + 1 = w5.heap.size := by omega
  clear SBo Z5o
  have R1 := R.out
  have S1 := S.out
  have r0 := (blk_cell R1 0).trans rfl
  have r1 := (blk_cell R1 1).trans rfl
  have r2 := (blk_cell R1 2).trans rfl
  have r3 := (blk_cell R1 3).trans rfl
  have r4 := (blk_cell R1 4).trans rfl
  have f0 := blk_free R1 0
  have f1 := blk_free R1 1
  have f2 := blk_free R1 2
  have f3 := blk_free R1 3
  have f4 := blk_free R1 4
  have s0 := (blk_cell S1 0).trans rfl
  have s1 := (blk_cell S1 1).trans rfl
  have g0 := blk_free S1 0
  have g1 := blk_free S1 1
  clear R1 S1
  go_wp2_with (fail)
  go_region
  go_wp2_with (fail)
  exact out_end_drew rfl R.out S.out HB.out rfl rfl rfl rfl (Nat.zero_le _) (F_nil' _ _ _) _ rfl
set_option maxRecDepth 100000 in
set_option maxHeartbeats 4000000 in
theorem deep_list (A : Option Addr) (c : Nat) (L : List S31) (a l : Int) (hl : L.length ≤ 140737488351232) (h0 : 0 ≤ a) (h1 : a ≤ 140737488351233) (w : World) (t0 t1 t2 : Int) (t3 : ByteArray) (u0 u1 u2 : Int) (u3 : ByteArray) (x : S38) (n da : Int) (n5 : ¬ t0 = 5) (n1 : ¬ t0 = 1) (hd : l < 30) (hd0 : 0 ≤ l) (H1 : Hid (∀ w', Below w.heap.size w w' → Calls Tryd.prog 34 #[.slice A L.length c, .int .i64 a] w' fun e w'' => e = .returned (.agg #[.int .i64 t0, .int .i64 t1, .int .i64 t2, .string t3]) ∧ Below w'.heap.size w' w'')) (H2 : Hid (∀ w', Calls Tryd.prog 46 #[.agg #[.int .i64 t0, .int .i64 t1, .int .i64 t2, .string t3], .int .i64 4, .string ⟨#[91]⟩] w' fun e w'' => e = .returned (.bool true) ∧ Below w'.heap.size w' w'')) (H3 : Hid (∀ w', Below w.heap.size w w' → Calls Tryd.prog 34 #[.slice A L.length c, .int .i64 (a + 1)] w' fun e w'' => e = .returned (.agg #[.int .i64 u0, .int .i64 u1, .int .i64 u2, .string u3]) ∧ Below w'.heap.size w' w'')) (H4 : Hid (∀ w', Calls Tryd.prog 46 #[.agg #[.int .i64 u0, .int .i64 u1, .int .i64 u2, .string u3], .int .i64 4, .string ⟨#[93]⟩] w' fun e w'' => e = .returned (.bool true) ∧ Below w'.heap.size w' w'')) (H5 : Hid (∀ w', Below w.heap.size w w' → Calls Tryd.prog 35 #[.slice A L.length c, .int .i64 (a + 2), .int .i64 (l + 1)] w' (OutR (x, n, da, 0) w'))) :
    Calls Tryd.prog 35 #[.slice A L.length c, .int .i64 a, .int .i64 l] w (OutR (⟨5, t1, ⟨#[]⟩, ⟨#[]⟩, [x]⟩, n, 0, 0) w) := by
  have HB := Lib.hid (bel_alloc (bel_alloc (Below.refl w.heap.size w) box38) box25)
  have R := Lib.hid (blk_alloc (blk_new w box38) box25)
  have S := Lib.hid (blk_new1 w box38 box25)
  go_enter Tryd.func35, Tryd.ntmps35
  go_wp2_with (fail)
  refine (H1.out _ HB.out).mono ?_
  rintro e1 w1 ⟨rfl, hb⟩
  replace HB := Lib.hid (bel_alloc (bel_trans HB.out hb) (.cells #[.int .i64 t0, .int .i64 t1, .int .i64 t2, .string t3] 31))
  replace R := Lib.hid (blk_alloc (blk_later hb R.out) (.cells #[.int .i64 t0, .int .i64 t1, .int .i64 t2, .string t3] 31))
  replace S := Lib.hid (blk_alloc (blk_later hb S.out) (.cells #[.int .i64 t0, .int .i64 t1, .int .i64 t2, .string t3] 31))
  have K := Lib.hid (blk_new w1 (.cells #[.int .i64 t0, .int .i64 t1, .int .i64 t2, .string t3] 31))
  clear hb
  have e5 : (t0 == 5) = false := beq_eq_false_iff_ne.2 n5
  have e1' : (t0 == 1) = false := beq_eq_false_iff_ne.2 n1
  have e30 : ¬ 30 ≤ l := by omega
  have y0 := (blk_cell K.out 0).trans rfl
  have y1 := (blk_cell K.out 1).trans rfl
  have y2 := (blk_cell K.out 2).trans rfl
  have y3 := (blk_cell K.out 3).trans rfl
  go_wp2_with (fail)
  clear y0 y1 y2 y3
  refine (H2.out _).mono ?_
  rintro e2 w2 ⟨rfl, hb⟩
  replace HB := Lib.hid (bel_trans HB.out hb)
  replace R := Lib.hid (blk_later hb R.out)
  replace S := Lib.hid (blk_later hb S.out)
  replace K := Lib.hid (blk_later hb K.out)
  clear hb
  go_wp2_with (fail)
  refine (H3.out _ HB.out).mono ?_
  rintro e3 w3 ⟨rfl, hb⟩
  replace HB := Lib.hid (bel_trans HB.out hb)
  replace R := Lib.hid (blk_later hb R.out)
  replace S := Lib.hid (blk_later hb S.out)
  replace K := Lib.hid (blk_later hb K.out)
  clear hb
  go_wp2_with (fail)
  refine (H4.out _).mono ?_
  rintro e4 w4 ⟨rfl, hb⟩
  replace HB := Lib.hid (bel_trans HB.out hb)
  replace R := Lib.hid (blk_later hb R.out)
  replace S := Lib.hid (blk_later hb S.out)
  replace K := Lib.hid (blk_later hb K.out)
  clear hb
  have SZ := Lib.hid (blk_lt S.out)
  go_wp2_with (fail)
  have Z5 := Lib.hid (Nat.lt_of_lt_of_le (blk_lt S.out) (Nat.le_refl w4.heap.size))
  refine (H5.out _ HB.out).mono ?_
  rintro e5 w5 ⟨A', m', rfl, hm, hF, hb⟩
  have HF := Lib.hid hF
  have HM := Lib.hid hm
  replace HB := Lib.hid (bel_alloc (bel_alloc (bel_trans HB.out hb) (.cells #[.int .i64 x.f0, .int .i64 x.f1, .string x.f2, .string x.f3, .slice A' x.f4.length m'] 38)) (.cells #[.int .i64 da, .int .i64 0] 25))
  replace R := Lib.hid (blk_alloc (blk_alloc (blk_later hb R.out) (.cells #[.int .i64 x.f0, .int .i64 x.f1, .string x.f2, .string x.f3, .slice A' x.f4.length m'] 38)) (.cells #[.int .i64 da, .int .i64 0] 25))
  replace S := Lib.hid (blk_alloc (blk_alloc (blk_later hb S.out) (.cells #[.int .i64 x.f0, .int .i64 x.f1, .string x.f2, .string x.f3, .slice A' x.f4.length m'] 38)) (.cells #[.int .i64 da, .int .i64 0] 25))
  replace K := Lib.hid (blk_alloc (blk_alloc (blk_later hb K.out) (.cells #[.int .i64 x.f0, .int .i64 x.f1, .string x.f2, .string x.f3, .slice A' x.f4.length m'] 38)) (.cells #[.int .i64 da, .int .i64 0] 25))
  have X := Lib.hid (blk_alloc (blk_new w5 (.cells #[.int .i64 x.f0, .int .i64 x.f1, .string x.f2, .string x.f3, .slice A' x.f4.length m'] 38)) (.cells #[.int .i64 da, .int .i64 0] 25))
  have D := Lib.hid (blk_new1 w5 (.cells #[.int .i64 x.f0, .int .i64 x.f1, .string x.f2, .string x.f3, .slice A' x.f4.length m'] 38) (.cells #[.int .i64 da, .int .i64 0] 25))
  have SB := Lib.hid hb.size
  clear hb hF hm
  have d0 := (blk_cell D.out 0).trans rfl
  have d1 := (blk_cell D.out 1).trans rfl
  have y0 := (blk_cell K.out 0).trans rfl
  have y1 := (blk_cell K.out 1).trans rfl
  have y2 := (blk_cell K.out 2).trans rfl
  have y3 := (blk_cell K.out 3).trans rfl
  have x0 := (blk_cell X.out 0).trans rfl
  have x1 := (blk_cell X.out 1).trans rfl
  have x2 := (blk_cell X.out 2).trans rfl
  have x3 := (blk_cell X.out 3).trans rfl
  have x4 := (blk_cell X.out 4).trans rfl
  have r0 := (blk_cell (blk_alloc R.out (.cells #[.int .i64 x.f0, .int .i64 x.f1, .string x.f2, .string x.f3, .slice A' x.f4.length m'] 38)) 0).trans rfl
  have r1 := (blk_cell (blk_alloc R.out (.cells #[.int .i64 x.f0, .int .i64 x.f1, .string x.f2, .string x.f3, .slice A' x.f4.length m'] 38)) 1).trans rfl
  have r2 := (blk_cell (blk_alloc R.out (.cells #[.int .i64 x.f0, .int .i64 x.f1, .string x.f2, .string x.f3, .slice A' x.f4.length m'] 38)) 2).trans rfl
  have r3 := (blk_cell (blk_alloc R.out (.cells #[.int .i64 x.f0, .int .i64 x.f1, .string x.f2, .string x.f3, .slice A' x.f4.length m'] 38)) 3).trans rfl
  have r4 := (blk_cell (blk_alloc R.out (.cells #[.int .i64 x.f0, .int .i64 x.f1, .string x.f2, .string x.f3, .slice A' x.f4.length m'] 38)) 4).trans rfl
  have f0 := blk_free (blk_alloc R.out (.cells #[.int .i64 x.f0, .int .i64 x.f1, .string x.f2, .string x.f3, .slice A' x.f4.length m'] 38)) 0
  have f1 := blk_free (blk_alloc R.out (.cells #[.int .i64 x.f0, .int .i64 x.f1, .string x.f2, .string x.f3, .slice A' x.f4.length m'] 38)) 1
  have f2 := blk_free (blk_alloc R.out (.cells #[.int .i64 x.f0, .int .i64 x.f1, .string x.f2, .string x.f3, .slice A' x.f4.length m'] 38)) 2
  have f3 := blk_free (blk_alloc R.out (.cells #[.int .i64 x.f0, .int .i64 x.f1, .string x.f2, .string x.f3, .slice A' x.f4.length m'] 38)) 3
  have f4 := blk_free (blk_alloc R.out (.cells #[.int .i64 x.f0, .int .i64 x.f1, .string x.f2, .string x.f3, .slice A' x.f4.length m'] 38)) 4
  have s0 := (blk_cell (blk_alloc S.out (.cells #[.int .i64 x.f0, .int .i64 x.f1, .string x.f2, .string x.f3, .slice A' x.f4.length m'] 38)) 0).trans rfl
  have s1 := (blk_cell (blk_alloc S.out (.cells #[.int .i64 x.f0, .int .i64 x.f1, .string x.f2, .string x.f3, .slice A' x.f4.length m'] 38)) 1).trans rfl
  have g0 := blk_free (blk_alloc S.out (.cells #[.int .i64 x.f0, .int .i64 x.f1, .string x.f2, .string x.f3, .slice A' x.f4.length m'] 38)) 0
  have g1 := blk_free (blk_alloc S.out (.cells #[.int .i64 x.f0, .int .i64 x.f1, .string x.f2, .string x.f3, .slice A' x.f4.length m'] 38)) 1
  go_wp2_with (fail)
  exact out_end rfl (blk_alloc R.out _) (blk_alloc S.out _) (bel_alloc HB.out _) rfl rfl rfl rfl (Nat.le_refl 1) (F_one (ok := fun k => w.heap.size + 2 ≤ k) (g := w5.heap.size + 1 + 1) (by have := SB.out; have := Z5.out; show w.heap.size + 2 ≤ w5.heap.size + 1 + 1; omega) (blk_new2 w5 _ _ _) HM.out (Kd.F_mono (Kd.F_alloc (Kd.F_alloc (Kd.F_alloc HF.out _) _) _) (fun k hk => by have := Z5.out; have hk : w4.heap.size ≤ k := hk; show w.heap.size + 2 ≤ k; omega))) _ rfl
end Go.Proofs.YtlmggfbpdciioaaDoor
