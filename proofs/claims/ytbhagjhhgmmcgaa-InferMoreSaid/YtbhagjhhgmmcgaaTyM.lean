/- sets.Methods. -/
import Derived.Test.YtbhagjhhgmmcgaaTyL
import Derived.StillTailTactics
import Derived.BigQuiet
namespace Go.Proofs.Ytbhagjhhgmmcgaa
open Go.RowKit PRef Go.Proofs.YtbhagjhhgmmcgaaW.PrintWords
set_option linter.unusedVariables false

def MthOut (l : List Mth) (w : World) (e : Ending) (w' : World) : Prop := ∃ A' c', e = .returned (.slice A' l.length c') ∧ l.length ≤ c' ∧ Kd.C kMth w' A' l.length l ∧ Below w.heap.size w w'
theorem MthOut.nil {w w' : World} (h : Below w.heap.size w w') : MthOut [] w (.returned (.slice none 0 0)) w' := ⟨none, 0, rfl, Nat.le_refl _, ⟨rfl, by simp, fun h => by simp at h⟩, h⟩

set_option maxRecDepth 100000 in
set_option maxHeartbeats 4000000 in
theorem methods_any (a : ScA) (W : List Ifc) (B : List Ty) (t : Ty) (A : Option Addr) (c : Nat) (w : World) (hW : ScC a W B w) (ok : WOk W) (hA : Kd.C kTy w A t.f4.length t.f4) (hc : t.f4.length ≤ c) :
    Calls Try.prog 23 #[scV a W B, tyV t A c] w (MthOut (methodsP W B t) w) := by
  have hb0 := bel_alloc (bel_alloc (Below.refl w.heap.size w) (.cells #[.slice a.AW W.length a.cW, .slice a.AI a.nI a.cI, .slice a.AN a.nN a.cN, .slice a.AB B.length a.cB, .slice a.AV a.nV a.cV] 27)) (.cells #[.int .i64 t.f0, .string t.f1, .string t.f2, .int .i64 t.f3, .slice A t.f4.length c] 29)
  have HB := Lib.hid hb0
  have HW := Lib.hid (hW.later hb0)
  have hs := blk_alloc (blk_new w (.cells #[.slice a.AW W.length a.cW, .slice a.AI a.nI a.cI, .slice a.AN a.nN a.cN, .slice a.AB B.length a.cB, .slice a.AV a.nV a.cV] 27)) (.cells #[.int .i64 t.f0, .string t.f1, .string t.f2, .int .i64 t.f3, .slice A t.f4.length c] 29)
  have ht : ((w.alloc (.cells #[.slice a.AW W.length a.cW, .slice a.AI a.nI a.cI, .slice a.AN a.nN a.cN, .slice a.AB B.length a.cB, .slice a.AV a.nV a.cV] 27)).alloc (.cells #[.int .i64 t.f0, .string t.f1, .string t.f2, .int .i64 t.f3, .slice A t.f4.length c] 29)).heap[w.heap.size + 1]? = some (.cells #[.int .i64 t.f0, .string t.f1, .string t.f2, .int .i64 t.f3, .slice A t.f4.length c] 29 (0, 0)) := by simpa using blk_new (w.alloc (.cells #[.slice a.AW W.length a.cW, .slice a.AI a.nI a.cI, .slice a.AN a.nN a.cN, .slice a.AB B.length a.cB, .slice a.AV a.nV a.cV] 27)) (.cells #[.int .i64 t.f0, .string t.f1, .string t.f2, .int .i64 t.f3, .slice A t.f4.length c] 29)
  have HS := Lib.hid hs
  have HT := Lib.hid ht
  have hlB : B.length ≤ 9223372036854775807 := hW.b_.2.1
  unfold methodsP
  by_cases h6 : t.f0 = 6
  · have e6 : (t.f0 == 6) = true := by simp [h6]
    have s3 := (blk_cell hs 3).trans rfl
    have t3 := (blk_cell ht 3).trans rfl
    rw [if_pos h6]
    by_cases h0 : t.f3 < 0
    · have d0 : decide (t.f3 < 0) = true := decide_eq_true h0
      rw [if_pos (.inl h0)]
      clear hW ok hs ht h6 hA hc hb0
      simp only [scV, tyV] at *
      go_enter Try.func23, Try.ntmps23
      go_wp2_with (fail)
      go_quiet (fail)
      go_wp2_with (fail)
      go_ret
      exact MthOut.nil (bel_drewN HB.out _)
    · have d0 : decide (t.f3 < 0) = false := decide_eq_false h0
      have h0' : 0 ≤ t.f3 := by omega
      by_cases h1 : (B.length : Int) ≤ t.f3
      · have d1 : decide ((B.length : Int) ≤ t.f3) = true := decide_eq_true h1
        rw [if_pos (.inr h1)]
        clear hW ok hs ht h6 hA hc hb0
        simp only [scV, tyV] at *
        go_enter Try.func23, Try.ntmps23
        go_wp2_with (fail)
        go_quiet (fail)
        go_wp2_with (fail)
        go_ret
        exact MthOut.nil (bel_drewN HB.out _)
      · have d1 : decide ((B.length : Int) ≤ t.f3) = false := decide_eq_false h1
        have h1' : t.f3 < (B.length : Int) := by omega
        rw [if_neg (by omega)]
        have hWd := (hW.later hb0).later (bel_drew (Below.refl _ _))
        obtain ⟨ad, A4, c4, hAB, x0, x1, x2, x3, x4, l4, g4⟩ := at_T29 (hW.later hb0).b_ t.f3 h0' h1'
        generalize rd_T29 B t.f3 = u at *
        have HI := Lib.hid (iface_any a W B u A4 c4 _ hWd ok)
        have HFD := Lib.hid (fun W' (hb : Below w.heap.size w W') => find_any a W B u A4 c4 W' (hW.later hb) ok)
        generalize ifaceP W u = iu at *
        generalize (findP W u).getD zDcl = x at *
        generalize (findP W u).isSome = bx at *
        clear hW ok hs ht h6 hA hc hb0 hWd l4 g4
        obtain ⟨AW, cW, AI, nI, cI, AN, nN, cN, AB, cB, AV, nV, cV⟩ := a
        simp only at hAB
        subst hAB
        simp only [scV, tyV, dclV] at *
        cases iu with
        | false =>
          rw [if_neg (by decide)]
          go_enter Try.func23, Try.ntmps23
          go_wp2_with (fail)
          go_region_law (first | (go_simp; go_at_call 25; refine HI.out.mono ?_; rintro e w1 ⟨rfl, hb⟩; have HB2 := Lib.hid (bel_trans HB.out (bel_trans (bel_drew (Below.refl _ _)) hb)); clear hb))
          all_goals
            go_wp2_with (fail)
            go_ret
            exact MthOut.nil HB2.out
        | true =>
          rw [if_pos rfl]
          go_enter Try.func23, Try.ntmps23
          go_wp2_with (fail)
          go_region_law (first | (go_simp; go_at_call 25; refine HI.out.mono ?_; rintro e w1 ⟨rfl, hb⟩; have hbd := bel_trans (bel_drew (Below.refl ((w.alloc (.cells #[.slice AW W.length cW, .slice AI nI cI, .slice AN nN cN, .slice (some ad) B.length cB, .slice AV nV cV] 27)).alloc (.cells #[.int .i64 t.f0, .string t.f1, .string t.f2, .int .i64 t.f3, .slice A t.f4.length c] 29)).heap.size ((w.alloc (.cells #[.slice AW W.length cW, .slice AI nI cI, .slice AN nN cN, .slice (some ad) B.length cB, .slice AV nV cV] 27)).alloc (.cells #[.int .i64 t.f0, .string t.f1, .string t.f2, .int .i64 t.f3, .slice A t.f4.length c] 29)))) hb; have HBD := Lib.hid hbd; have HB2 := Lib.hid (bel_trans HB.out hbd); clear hb hbd))
          all_goals
            have hbd := HBD.out
            have y0 := cell_later hbd x0
            have y1 := cell_later hbd x1
            have y2 := cell_later hbd x2
            have y3 := cell_later hbd x3
            have y4 := cell_later hbd x4
            have hs := blk_later hbd HS.out
            have ht := blk_later hbd HT.out
            have s0' := (blk_cell hs 0).trans rfl
            have s1' := (blk_cell hs 1).trans rfl
            have s2' := (blk_cell hs 2).trans rfl
            have s3' := (blk_cell hs 3).trans rfl
            have s4' := (blk_cell hs 4).trans rfl
            have t0' := (blk_cell ht 0).trans rfl
            have t1' := (blk_cell ht 1).trans rfl
            have t2' := (blk_cell ht 2).trans rfl
            have t3' := (blk_cell ht 3).trans rfl
            have t4' := (blk_cell ht 4).trans rfl
            have f0 := blk_free ht 0
            have f1 := blk_free ht 1
            have f2 := blk_free ht 2
            have f3 := blk_free ht 3
            have f4 := blk_free ht 4
            clear hbd hs ht
            go_wp2_with (fail)
            have HB3 := Lib.hid (Below.setCell (Below.setCell (Below.setCell (Below.setCell (Below.setCell (HB2.out) (p := ⟨w.heap.size + 1, 0, none⟩) (Nat.le_succ _) (.int .i64 u.f0)) (p := ⟨w.heap.size + 1, 1, none⟩) (Nat.le_succ _) (.string u.f1)) (p := ⟨w.heap.size + 1, 2, none⟩) (Nat.le_succ _) (.string u.f2)) (p := ⟨w.heap.size + 1, 3, none⟩) (Nat.le_succ _) (.int .i64 u.f3)) (p := ⟨w.heap.size + 1, 4, none⟩) (Nat.le_succ _) (.slice A4 u.f4.length c4))
            refine (HFD.out _ HB3.out).mono ?_
            rintro e w2 ⟨A1, c1, B1, d1, rfl, _, _, hd1, k4, hb⟩
            have HD1 := Lib.hid hd1
            have HK4 := Lib.hid (Kd.C_below (Kd.F_now k4) (bel_alloc (Below.refl _ _) (.cells #[.string x.f0, .bool x.f1, .slice A1 x.f2.length c1, .slice B1 x.f3.length d1] 35)))
            have HB4 := Lib.hid (bel_alloc (bel_trans HB3.out hb) (.cells #[.string x.f0, .bool x.f1, .slice A1 x.f2.length c1, .slice B1 x.f3.length d1] 35))
            clear hb hd1 k4
            go_wp2_with (fail)
            go_ret
            exact ⟨B1, d1, rfl, HD1.out, HK4.out, HB4.out⟩
  · have e6 : (t.f0 == 6) = false := beq_eq_false_iff_ne.2 h6
    rw [if_neg h6]
    have HFD := Lib.hid (find_any a W B t A c _ (hW.later hb0) ok)
    generalize (findP W t).getD zDcl = x at *
    generalize (findP W t).isSome = bx at *
    clear hW ok hs ht h6 hA hc hb0
    simp only [scV, tyV, dclV] at *
    go_enter Try.func23, Try.ntmps23
    go_wp2_with (fail)
    refine HFD.out.mono ?_
    rintro e w2 ⟨A1, c1, B1, d1, rfl, _, _, hd1, k4, hb⟩
    have HD1 := Lib.hid hd1
    have HK4 := Lib.hid (Kd.C_below (Kd.F_now k4) (bel_alloc (Below.refl _ _) (.cells #[.string x.f0, .bool x.f1, .slice A1 x.f2.length c1, .slice B1 x.f3.length d1] 35)))
    have HB4 := Lib.hid (bel_alloc (bel_trans HB.out hb) (.cells #[.string x.f0, .bool x.f1, .slice A1 x.f2.length c1, .slice B1 x.f3.length d1] 35))
    clear hb hd1 k4
    go_wp2_with (fail)
    go_ret
    exact ⟨B1, d1, rfl, HD1.out, HK4.out, HB4.out⟩
end Go.Proofs.Ytbhagjhhgmmcgaa
