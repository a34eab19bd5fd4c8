/- The laws DepkeyNames, DepkeyKeys, DepkeySplits. -/
import Derived.Test.YtnafeapbglflnaaDkO
namespace Go.Proofs.Ytnafeapbglflnaa
open Go.RowKit PRef Go.Proofs.YtnafeapbglflnaaW.PrintWords
set_option linter.unusedVariables false

theorem names_any (w : World) : Calls Try.prog 3 #[] w fun e w' => e = .returned (.bool true) ∧ Below w.heap.size w w' := by
  have HC := Lib.hid (awake_any w)
  go_enter Try.func3, Try.ntmps3
  go_wp2_with (fail)
  refine HC.out.mono ?_
  rintro e w1 ⟨rfl, hb1⟩
  have HB := Lib.hid hb1
  clear hb1 HC
  go_wp2_with (fail)
  go_ret
  exact ⟨rfl, HB.out⟩

theorem keys_any (s : ByteArray) (l : List S43) (A : Option Addr) (c : Nat) (w : World) (h : Kd.C k43 w A l.length l) (hc : l.length ≤ c) :
    Calls Try.prog 4 #[.string s, .slice A l.length c] w fun e w' => e = .returned (.bool true) ∧ Below w.heap.size w w' := by
  obtain ⟨r, hr, hF⟩ := few_c s l (by have := h.2.1; omega)
  have HH := Lib.hid h
  have HC := Lib.hid (awake_any w)
  have HF := Lib.hid hF
  have HR := Lib.hid hr
  clear h hF hr
  go_enter Try.func4, Try.ntmps4
  go_wp2_with (fail)
  refine HC.out.mono ?_
  rintro e w1 ⟨rfl, hb1⟩
  have HB1 := Lib.hid hb1
  have HF1 := Lib.hid (HF.out A c w1 (Kd.C_below HH.out hb1) hc)
  clear hb1 HC HF
  go_wp2_with (fail)
  refine HF1.out.mono ?_
  rintro e w2 ⟨rfl, hb2⟩
  have HB2 := Lib.hid (bel_trans HB1.out hb2)
  clear hb2 HF1 HB1
  cases r with
  | false =>
    go_wp2_with (fail)
    go_ret
    exact ⟨rfl, HB2.out⟩
  | true =>
    have HC1 := Lib.hid (key_c s l A c w2 (HR.out rfl) (Kd.C_below HH.out HB2.out))
    have HC2 := Lib.hid (fun W hb => qkey_c s l A c W (HR.out rfl) (Kd.C_below HH.out hb))
    generalize keyF s l = x at *
    obtain ⟨x1, x2⟩ := x
    simp only at HC1 HC2
    go_wp2_with (fail)
    refine HC1.out.mono ?_
    rintro e w3 ⟨rfl, hb3⟩
    have HB3 := Lib.hid (bel_trans HB2.out hb3)
    clear hb3 HC1 HB2
    go_wp2_with (fail)
    refine (HC2.out w3 HB3.out).mono ?_
    rintro e w4 ⟨rfl, hb4⟩
    have HB4 := Lib.hid (bel_trans HB3.out hb4)
    clear hb4 HC2 HB3
    go_wp2_with (fail)
    go_ret
    exact ⟨by simp, HB4.out⟩

theorem splits_any (s : ByteArray) (w : World) :
    Calls Try.prog 5 #[.string s] w fun e w' => e = .returned (.bool true) ∧ Below w.heap.size w w' := by
  have HC := Lib.hid (awake_any w)
  by_cases hs : s.size ≤ 100000
  · have hd : decide ((100000 : Int) < s.size) = false := decide_eq_false (by omega)
    have HC1 := Lib.hid (fun W => split_any s W)
    have HC2 := Lib.hid (fun W => qsplit_any s W hs)
    generalize splitF s = x at *
    obtain ⟨x1, l, x3⟩ := x
    simp only at HC1 HC2
    go_enter Try.func5, Try.ntmps5
    go_wp2_with (fail)
    refine HC.out.mono ?_
    rintro e w1 ⟨rfl, hb1⟩
    have HB1 := Lib.hid hb1
    clear hb1 HC
    go_wp2_with (fail)
    refine (HC1.out w1).mono ?_
    rintro e w2 ⟨A, c, rfl, hc, hC, hb2⟩
    have HB2 := Lib.hid (bel_trans HB1.out hb2)
    have HL := Lib.hid hC
    have HCL := Lib.hid hc
    clear hb2 hC hc HC1 HB1
    go_wp2_with (fail)
    refine (HC2.out w2).mono ?_
    rintro e w3 ⟨B, d, rfl, hd, hD, hb3⟩
    have HB3 := Lib.hid (bel_trans HB2.out hb3)
    obtain ⟨r, hr, hF⟩ := sameDeps_c l l (by have := hD.2.1; omega)
    obtain rfl : r = true := hr.2 rfl
    have HF := Lib.hid (hF A c B d w3 (Kd.C_below HL.out hb3) HCL.out hD hd)
    clear hb3 hD hd hF hr HC2 HB2
    go_wp2_with (fail)
    refine HF.out.mono ?_
    rintro e w4 ⟨rfl, hb4⟩
    have HB4 := Lib.hid (bel_trans HB3.out hb4)
    clear hb4 HF HB3
    go_wp2_with (fail)
    go_ret
    exact ⟨by simp, HB4.out⟩
  · have hd : decide ((100000 : Int) < s.size) = true := decide_eq_true (by omega)
    go_enter Try.func5, Try.ntmps5
    go_wp2_with (fail)
    refine HC.out.mono ?_
    rintro e w1 ⟨rfl, hb1⟩
    have HB1 := Lib.hid hb1
    clear hb1 HC
    go_wp2_with (fail)
    go_ret
    exact ⟨rfl, HB1.out⟩
end Go.Proofs.Ytnafeapbglflnaa
