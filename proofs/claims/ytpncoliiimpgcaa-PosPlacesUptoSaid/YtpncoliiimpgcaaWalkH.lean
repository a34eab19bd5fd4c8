/- The laws PosPlaces and PosFinds, walked. -/
import Derived.Test.YtpncoliiimpgcaaRefA
namespace Go.Proofs.Ytpncoliiimpgcaa
open Go.RowKit Go.Proofs.YtpncoliiimpgcaaW.PrintWords
set_option linter.unusedVariables false

set_option maxRecDepth 100000 in
set_option maxHeartbeats 4000000 in
theorem places_any (s : ByteArray) (n : Int) (hs : s.size ≤ 1048576) (hn : (Lit.int .i64 n).wf = true) (w : World) :
    Calls Try.prog 4 #[.string s, .int .i64 n] w fun e w' => e = .returned (.bool true) ∧ Below w.heap.size w w' := by
  obtain ⟨k, hk⟩ := refPlace s hs n
  have HR := Lib.hid hk
  have HL : Hid (PPosFinds.quoinref01_Lines.f (s.size + 2) s = some (linesF s)) := Lib.hid (refLines s hs)
  have HC : Hid (((linesF s).length : Int) = (begs s).length - 1) := Lib.hid (by have := linesF_length s; omega)
  clear hk hn
  go_enter Try.func4, Try.ntmps4
  go_wp2_with (fail)
  refine (awake_any _).mono ?_
  rintro e w1 ⟨rfl, hb1⟩
  go_wp2_with (fail)
  refine (new_any s _ hs).mono ?_
  rintro e w2 ⟨b, g, cap, rfl, h2, hb2⟩
  have b2 := Lib.hid (bel_trans hb1 hb2)
  clear hb1 hb2
  go_wp2_with (fail)
  refine (place_any h2 hs n).mono ?_
  rintro e w3 ⟨rfl, hb3⟩
  have h3 := h2.below hb3
  have b3 := Lib.hid (bel_trans b2.out hb3)
  clear h2 b2 hb3
  generalize placeF s n = x at *
  obtain ⟨x1, x2, x3⟩ := x
  go_wp2_with (fail)
  refine (PPosPlaces.quoinref01_Place.calls k s n x1 x2 x3 _ HR.out).mono ?_
  rintro e w4 ⟨rfl, hd⟩
  have h4 := h3.below hd.below
  have b4 := Lib.hid (bel_trans b3.out hd.below)
  clear h3 b3 hd HR
  have HCC : Hid (Calls Try.prog 14 #[.pointer (some ⟨b, 0, none⟩)] w4 fun e w' => e = .returned (.int .i64 (linesF s).length) ∧ w4 = w') := by
    rw [HC.out]
    exact Lib.hid (count_any h4 hs)
  clear HC h4
  generalize linesF s = L at *
  go_wp2_with (fail)
  refine HCC.out.mono ?_
  rintro e w5 ⟨rfl, rfl⟩
  go_wp2_with (fail)
  refine (PPosFinds.quoinref01_Lines.calls _ s L _ HL.out).mono ?_
  rintro e w6 ⟨v, rfl, ho, hb6⟩
  have b6 := Lib.hid (bel_trans b4.out hb6)
  obtain ⟨A, c, rfl⟩ : ∃ A c, v = .slice A L.length c := Kd.R_slice ho
  clear ho hb6 HL b4 HCC
  go_wp2
  go_ret
  exact ⟨by simp, b6.out⟩

set_option maxRecDepth 100000 in
set_option maxHeartbeats 4000000 in
theorem finds_any (s : ByteArray) (n c : Int) (hs : s.size ≤ 1048576) (hn : (Lit.int .i64 n).wf = true) (hc : (Lit.int .i64 c).wf = true) (w : World) :
    Calls Try.prog 5 #[.string s, .int .i64 n, .int .i64 c] w fun e w' => e = .returned (.bool true) ∧ Below w.heap.size w w' := by
  obtain ⟨k, hk⟩ := refAt s hs n c hn hc
  obtain ⟨k2, hk2⟩ := refLine s hs n hn
  have HR := Lib.hid hk
  have HR2 := Lib.hid hk2
  have HC := Lib.hid hc
  clear hk hk2 hn hc
  go_enter Try.func5, Try.ntmps5
  go_wp2_with (fail)
  refine (awake_any _).mono ?_
  rintro e w1 ⟨rfl, hb1⟩
  go_wp2_with (fail)
  refine (new_any s _ hs).mono ?_
  rintro e w2 ⟨b, g, cap, rfl, h2, hb2⟩
  have b2 := Lib.hid (bel_trans hb1 hb2)
  clear hb1 hb2
  go_wp2_with (fail)
  refine (at_any h2 hs n c HC.out).mono ?_
  rintro e w3 ⟨rfl, hb3⟩
  have h3 := h2.below hb3
  have b3 := Lib.hid (bel_trans b2.out hb3)
  clear h2 b2 hb3
  generalize atF s n c = x at *
  obtain ⟨x1, x2⟩ := x
  go_wp2_with (fail)
  refine (PPosFinds.quoinref01_At.calls k s n c x1 x2 _ HR.out).mono ?_
  rintro e w4 ⟨rfl, hd⟩
  have h4 := h3.below hd
  have b4 := Lib.hid (bel_trans b3.out hd)
  clear h3 b3 hd HR
  go_wp2_with (fail)
  refine (line_any h4 hs n).mono ?_
  rintro e w5 ⟨rfl, hb5⟩
  have b5 := Lib.hid (bel_trans b4.out hb5)
  clear h4 b4 hb5
  generalize lineF s n = y at *
  obtain ⟨y1, y2⟩ := y
  go_wp2_with (fail)
  refine (PPosFinds.quoinref01_Line.calls k2 s n y1 y2 _ HR2.out).mono ?_
  rintro e w6 ⟨rfl, hd⟩
  have b6 := Lib.hid (bel_trans b5.out hd)
  clear b5 hd HR2
  go_wp2
  go_ret
  exact ⟨by simp, b6.out⟩
end Go.Proofs.Ytpncoliiimpgcaa
