/- The laws PosRises and PosBack, walked. -/
import Derived.Test.YtpncoliiimpgcaaWalkE
namespace Go.Proofs.Ytpncoliiimpgcaa
open Go.RowKit
set_option linter.unusedVariables false

set_option maxRecDepth 100000 in
set_option maxHeartbeats 2000000 in
theorem rises_any (s : ByteArray) (n m : Int) (hs : s.size ≤ 1048576) (hn : (Lit.int .i64 n).wf = true) (hm : (Lit.int .i64 m).wf = true) (w : World) :
    Calls Try.prog 8 #[.string s, .int .i64 n, .int .i64 m] w fun e w' => e = .returned (.bool true) ∧ Below w.heap.size w w' := by
  clear hn hm
  have H1 := Lib.hid (place_ok s n)
  have H2 := Lib.hid (place_ok s m)
  have H3 := Lib.hid (place_rises s n m)
  go_enter Try.func8, Try.ntmps8
  go_wp2_with (fail)
  refine (awake_any _).mono ?_
  rintro e w1 ⟨rfl, hb1⟩
  go_wp2_with (fail)
  refine (new_any s _ hs).mono ?_
  rintro e w2 ⟨b, g, cap, rfl, h2, hb2⟩
  have b2 := Lib.hid (bel_trans hb1 hb2)
  clear hb1 hb2
  go_wp2_with (fail)
  refine (place_any h2 hs n).mono ?_
  rintro e w3 ⟨rfl, hb3⟩
  have h3 := h2.below hb3
  have b3 := Lib.hid (bel_trans b2.out hb3)
  clear h2 b2 hb3
  go_wp2_with (fail)
  refine (place_any h3 hs m).mono ?_
  rintro e w4 ⟨rfl, hb4⟩
  have b4 := Lib.hid (bel_trans b3.out hb4)
  clear h3 b3 hb4
  generalize placeF s n = x at *
  generalize placeF s m = y at *
  obtain ⟨x1, x2, x3⟩ := x
  obtain ⟨y1, y2, y3⟩ := y
  rcases H1.out with ⟨e1, q1, q2⟩ | ⟨e1, q1⟩
  · simp only at e1
    subst e1
    rcases H2.out with ⟨e2, r1, r2⟩ | ⟨e2, r1⟩
    · simp only at e2
      subst e2
      have H := Lib.hid (H3.out ⟨q1, q2⟩ ⟨r1, r2⟩)
      clear H1 H2 H3
      go_wp2
      all_goals go_ret
      all_goals have h := H.out
      all_goals exact ⟨by first | (exfalso; omega) | rfl | (simp; omega), b4.out⟩
    · simp only [Prod.mk.injEq] at e2
      obtain ⟨rfl, rfl, rfl⟩ := e2
      clear H1 H2 H3
      go_wp2
      all_goals go_ret
      all_goals exact ⟨by first | (exfalso; omega) | rfl | (simp; omega), b4.out⟩
  · simp only [Prod.mk.injEq] at e1
    obtain ⟨rfl, rfl, rfl⟩ := e1
    rcases H2.out with ⟨e2, r1, r2⟩ | ⟨e2, r1⟩
    · simp only at e2
      subst e2
      clear H1 H2 H3
      go_wp2
      all_goals go_ret
      all_goals exact ⟨by first | (exfalso; omega) | rfl | (simp; omega), b4.out⟩
    · simp only [Prod.mk.injEq] at e2
      obtain ⟨rfl, rfl, rfl⟩ := e2
      clear H1 H2 H3
      go_wp2
      all_goals go_ret
      all_goals exact ⟨by first | (exfalso; omega) | rfl | (simp; omega), b4.out⟩

set_option maxRecDepth 100000 in
set_option maxHeartbeats 2000000 in
theorem back_any (s : ByteArray) (n l c : Int) (hs : s.size ≤ 1048576) (hn : (Lit.int .i64 n).wf = true) (hl : (Lit.int .i64 l).wf = true) (hc : (Lit.int .i64 c).wf = true) (w : World) :
    Calls Try.prog 6 #[.string s, .int .i64 n, .int .i64 l, .int .i64 c] w fun e w' => e = .returned (.bool true) ∧ Below w.heap.size w w' := by
  have HC := Lib.hid hc
  have H1 := Lib.hid (place_ok s n)
  have H2 := Lib.hid (at_ok s l c)
  have H3 := Lib.hid (fun h => place_at s l c h)
  have H4 := Lib.hid (fun h => at_place s n h)
  have HW : Hid (∀ n, (Lit.int .i64 (placeF s n).2.1).wf = true) := by
    refine Lib.hid fun n => ?_
    unfold placeF
    split
    · rfl
    · have := lastTo_range s n.toNat
      simp [Lit.wf, IntKind.min, IntKind.max, IntKind.signed, IntKind.bits]
      omega
  clear hn hl hc
  go_enter Try.func6, Try.ntmps6
  go_wp2_with (fail)
  refine (awake_any _).mono ?_
  rintro e w1 ⟨rfl, hb1⟩
  go_wp2_with (fail)
  refine (new_any s _ hs).mono ?_
  rintro e w2 ⟨b, g, cap, rfl, h2, hb2⟩
  have b2 := Lib.hid (bel_trans hb1 hb2)
  clear hb1 hb2
  go_wp2_with (fail)
  refine (place_any h2 hs n).mono ?_
  rintro e w3 ⟨rfl, hb3⟩
  have h3 := h2.below hb3
  have b3 := Lib.hid (bel_trans b2.out hb3)
  clear h2 b2 hb3
  have HP : Hid (∀ (W : World), IsLines W b s g cap (begs s) → Below w.heap.size w W → Calls Try.prog 16 #[.pointer (some ⟨b, 0, none⟩), .int .i64 l, .int .i64 c] W fun e w' => e = .returned (.tuple #[.int .i64 (atF s l c).1, .int .i64 (atF s l c).2]) ∧ IsLines w' b s g cap (begs s) ∧ Below w.heap.size w w') := by
    refine Lib.hid fun W hW hB => (at_any hW hs l c HC.out).mono ?_
    rintro e w' ⟨rfl, hd⟩
    exact ⟨rfl, hW.below hd, bel_trans hB hd⟩
  have HQ : Hid (∀ (W : World), IsLines W b s g cap (begs s) → Below w.heap.size w W → Calls Try.prog 12 #[.pointer (some ⟨b, 0, none⟩), .int .i64 (atF s l c).1] W fun e w' => e = .returned (.tuple #[.int .i64 (placeF s (atF s l c).1).1, .int .i64 (placeF s (atF s l c).1).2.1, .int .i64 (placeF s (atF s l c).1).2.2]) ∧ Below w.heap.size w w') := by
    refine Lib.hid fun W hW hB => (place_any hW hs _).mono ?_
    rintro e w' ⟨rfl, hd⟩
    exact ⟨rfl, bel_trans hB hd⟩
  have HR : Hid (∀ (W : World), IsLines W b s g cap (begs s) → Below w.heap.size w W → Calls Try.prog 16 #[.pointer (some ⟨b, 0, none⟩), .int .i64 (placeF s n).1, .int .i64 (placeF s n).2.1] W fun e w' => e = .returned (.tuple #[.int .i64 (atF s (placeF s n).1 (placeF s n).2.1).1, .int .i64 (atF s (placeF s n).1 (placeF s n).2.1).2]) ∧ IsLines w' b s g cap (begs s) ∧ Below w.heap.size w w') := by
    refine Lib.hid fun W hW hB => (at_any hW hs _ _ (HW.out n)).mono ?_
    rintro e w' ⟨rfl, hd⟩
    exact ⟨rfl, hW.below hd, bel_trans hB hd⟩
  generalize hz : atF s (placeF s n).1 (placeF s n).2.1 = z at *
  generalize placeF s n = x at *
  generalize hu : placeF s (atF s l c).1 = u at *
  generalize atF s l c = y at *
  have HU := Lib.hid hu
  have HZ := Lib.hid hz
  clear hu hz HW HC
  obtain ⟨x1, x2, x3⟩ := x
  obtain ⟨y1, y2⟩ := y
  have hx : (x3 = 0 ∧ z = (n, 0)) ∨ x3 = 10 := by
    rcases H1.out with ⟨h1, h2, h3⟩ | ⟨h1, h2⟩
    · exact .inl ⟨h1, H4.out ⟨h2, h3⟩⟩
    · simp only [Prod.mk.injEq] at h1
      exact .inr h1.2.2
  have hy : (y2 = 0 ∧ u = (l, c, 0)) ∨ (y1 = 0 ∧ y2 = 10) := by
    rcases H2.out with h1 | h1
    · exact .inl ⟨h1, H3.out h1⟩
    · simp only [Prod.mk.injEq] at h1
      exact .inr h1
  clear H1 H2 H3 H4 HU HZ
  simp only at HP HQ HR
  rcases hx with ⟨rfl, rfl⟩ | rfl
  · go_wp2_with (fail)
    refine (HR.out _ h3 b3.out).mono ?_
    rintro e w4 ⟨rfl, hw4, hb4⟩
    have b4 := Lib.hid hb4
    clear h3 b3 hb4
    go_wp2_with (fail)
    refine (HP.out _ hw4 b4.out).mono ?_
    rintro e w5 ⟨rfl, hw5, hb5⟩
    have b5 := Lib.hid hb5
    clear hw4 b4 hb5
    rcases hy with ⟨rfl, rfl⟩ | ⟨rfl, rfl⟩
    · go_wp2_with (fail)
      refine (HQ.out _ hw5 b5.out).mono ?_
      rintro e w6 ⟨rfl, hb6⟩
      have b6 := Lib.hid hb6
      clear hw5 b5 hb6
      go_wp2
      go_ret
      exact ⟨rfl, b6.out⟩
    · go_wp2
      go_ret
      exact ⟨rfl, b5.out⟩
  · go_wp2_with (fail)
    refine (HP.out _ h3 b3.out).mono ?_
    rintro e w5 ⟨rfl, hw5, hb5⟩
    have b5 := Lib.hid hb5
    clear h3 b3 hb5
    rcases hy with ⟨rfl, rfl⟩ | ⟨rfl, rfl⟩
    · go_wp2_with (fail)
      refine (HQ.out _ hw5 b5.out).mono ?_
      rintro e w6 ⟨rfl, hb6⟩
      have b6 := Lib.hid hb6
      clear hw5 b5 hb6
      go_wp2
      go_ret
      exact ⟨rfl, b6.out⟩
    · go_wp2
      go_ret
      exact ⟨rfl, b5.out⟩
end Go.Proofs.Ytpncoliiimpgcaa
