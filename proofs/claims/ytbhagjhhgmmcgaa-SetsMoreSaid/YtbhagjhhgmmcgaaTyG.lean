/- Whether two types are the same: plainly; slices.EqualFunc. -/
import Derived.Test.YtbhagjhhgmmcgaaTyC
namespace Go.Proofs.Ytbhagjhhgmmcgaa
open Go.RowKit PRef Go.Proofs.YtbhagjhhgmmcgaaW.PrintWords
set_option linter.unusedVariables false

/-- Lists of types, side by side. -/
def allL (q : Ty → Ty → Bool) : List Ty → List Ty → Bool
  | [], [] => true
  | a :: r, b :: s => q a b && allL q r s
  | _, _ => false
theorem allL_len (q : Ty → Ty → Bool) : ∀ (l m : List Ty), l.length ≠ m.length → allL q l m = false
  | [], [], h => absurd rfl h
  | [], _ :: _, _ => rfl
  | _ :: _, [], _ => rfl
  | a :: r, b :: s, h => by
    rw [allL, allL_len q r s (fun e => h (by rw [List.length_cons, List.length_cons, e])), Bool.and_false]
theorem allL_drop (q : Ty → Ty → Bool) (l m : List Ty) (h : l.length = m.length) (k : Nat) (x y : Ty) (hx : l[k]? = some x) (hy : m[k]? = some y) : allL q (l.drop k) (m.drop k) = (q x y && allL q (l.drop (k + 1)) (m.drop (k + 1))) := by
  obtain ⟨h1, rfl⟩ := List.getElem?_eq_some_iff.1 hx
  obtain ⟨h2, rfl⟩ := List.getElem?_eq_some_iff.1 hy
  rw [List.drop_eq_getElem_cons h1, List.drop_eq_getElem_cons h2, allL]

set_option maxRecDepth 100000 in
set_option maxHeartbeats 2000000 in
theorem equalSame_any (q : Ty → Ty → Bool) (A B : Option Addr) (c d : Nat) (l m : List Ty) (w : World) (hA : Kd.C kTy w A l.length l) (hB : Kd.C kTy w B m.length m) (hc : l.length ≤ c) (hd : m.length ≤ d)
    (hF : ∀ x ∈ l, ∀ y ∈ m, ∀ (A' B' : Option Addr) (c' d' : Nat) (W : World), Kd.C kTy W A' x.f4.length x.f4 → x.f4.length ≤ c' → Kd.C kTy W B' y.f4.length y.f4 → y.f4.length ≤ d' →
      Calls Try.prog 58 #[tyV x A' c', tyV y B' d'] W fun e W' => e = .returned (.bool (q x y)) ∧ Below W.heap.size W W') :
    Calls Try.prog 57 #[.slice A l.length c, .slice B m.length d, .func (.func 58) #[] #[]] w fun e w' => e = .returned (.bool (allL q l m)) ∧ Below w.heap.size w w' := by
  have HF := Lib.hid hF
  clear hF
  have hlm : l.length ≤ 9223372036854775807 := hA.2.1
  have hmm : m.length ≤ 9223372036854775807 := hB.2.1
  have HA := Lib.hid hA
  have HB := Lib.hid hB
  have HBW := Lib.hid (Below.refl w.heap.size w)
  clear hA hB
  by_cases hlen : l.length = m.length
  · have HLEN := Lib.hid hlen
    have t1 : ((l.length : Int) != (m.length : Int)) = false := by rw [hlen]; simp
    clear hlen
    go_enter Try.func57, Try.ntmps57
    go_wp2_with (fail)
    go_loopg [17] (l.length + 1) (fun kq v17 W => ∃ k : Nat, v17 = .int .i64 k ∧ Hid (kq + k = l.length + 1 ∧ k ≤ l.length ∧ allL q l m = allL q (l.drop k) (m.drop k)) ∧ Hid (Below w.heap.size w W))
    case atStart => exact ⟨0, rfl, Lib.hid ⟨rfl, Nat.zero_le _, rfl⟩, HBW⟩
    case round =>
      clear HBW
      obtain ⟨k, rfl, HK, HBW⟩ := hrel
      by_cases hlt : k < l.length
      · have hkm : k < m.length := by have := HLEN.out; omega
        obtain ⟨x, hx⟩ : ∃ x, l[k]? = some x := ⟨_, List.getElem?_eq_getElem hlt⟩
        obtain ⟨y, hy⟩ : ∃ y, m[k]? = some y := ⟨_, List.getElem?_eq_getElem hkm⟩
        obtain ⟨ad, A4, c4, hA1, x0, x1, x2, x3, x4, l4, h4⟩ := at_T29 (Kd.C_below HA.out HBW.out) (k : Int) (by omega) (by omega)
        obtain ⟨bd, B4, d4, hB1, y0, y1, y2, y3, y4, m4, g4⟩ := at_T29 (Kd.C_below HB.out HBW.out) (k : Int) (by omega) (by omega)
        subst hA1 hB1
        rw [show rd_T29 l (k : Int) = x from by unfold rd_T29; rw [Int.toNat_natCast, List.getD_eq_getElem?_getD, hx]; rfl] at x0 x1 x2 x3 x4 l4 h4
        rw [show rd_T29 m (k : Int) = y from by unfold rd_T29; rw [Int.toNat_natCast, List.getD_eq_getElem?_getD, hy]; rfl] at y0 y1 y2 y3 y4 m4 g4
        rw [Int.toNat_natCast] at x0 x1 x2 x3 x4 y0 y1 y2 y3 y4
        have z0 := cell_later (bel_alloc (Below.refl wr.heap.size wr) (.cells #[.int .i64 x.f0, .string x.f1, .string x.f2, .int .i64 x.f3, .slice A4 x.f4.length c4] 29)) y0
        have z1 := cell_later (bel_alloc (Below.refl wr.heap.size wr) (.cells #[.int .i64 x.f0, .string x.f1, .string x.f2, .int .i64 x.f3, .slice A4 x.f4.length c4] 29)) y1
        have z2 := cell_later (bel_alloc (Below.refl wr.heap.size wr) (.cells #[.int .i64 x.f0, .string x.f1, .string x.f2, .int .i64 x.f3, .slice A4 x.f4.length c4] 29)) y2
        have z3 := cell_later (bel_alloc (Below.refl wr.heap.size wr) (.cells #[.int .i64 x.f0, .string x.f1, .string x.f2, .int .i64 x.f3, .slice A4 x.f4.length c4] 29)) y3
        have z4 := cell_later (bel_alloc (Below.refl wr.heap.size wr) (.cells #[.int .i64 x.f0, .string x.f1, .string x.f2, .int .i64 x.f3, .slice A4 x.f4.length c4] 29)) y4
        have hb0 := bel_alloc (bel_alloc (Below.refl wr.heap.size wr) (.cells #[.int .i64 x.f0, .string x.f1, .string x.f2, .int .i64 x.f3, .slice A4 x.f4.length c4] 29)) (.cells #[.int .i64 y.f0, .string y.f1, .string y.f2, .int .i64 y.f3, .slice B4 y.f4.length d4] 29)
        have HCALL := Lib.hid (HF.out x (List.mem_of_getElem? hx) y (List.mem_of_getElem? hy) A4 B4 c4 d4 _ (Kd.C_below h4 hb0) l4 (Kd.C_below g4 hb0) m4)
        simp only [tyV] at HCALL
        replace HBW := Lib.hid (bel_trans HBW.out hb0)
        have HD := Lib.hid (HK.out.2.2.trans (allL_drop q l m HLEN.out k x y hx hy))
        have i0 : 0 ≤ (k : Int) := by omega
        have i1 : (k : Int) < l.length := by omega
        have i2 : (k : Int) < m.length := by omega
        have HLT := Lib.hid hlt
        clear hx hy h4 g4 l4 m4 y0 y1 y2 y3 y4 hb0
        cases hq : q x y with
        | true =>
          rw [hq] at HCALL
          go_wp2_with (fail)
          refine HCALL.out.mono ?_
          rintro e w5 ⟨rfl, hb⟩
          replace HBW := Lib.hid (bel_trans HBW.out hb)
          have HE := Lib.hid (show allL q l m = allL q (l.drop (k + 1)) (m.drop (k + 1)) from by have := HD.out; rw [hq, Bool.true_and] at this; exact this)
          clear hb hq
          go_wp2_with (fail)
          go_roundg (gk - 1)
          case measure => have := HK.out.1; have := HK.out.2.1; omega
          case rel => exact ⟨k + 1, by go_num, Lib.hid ⟨by have := HK.out.1; have := HLT.out; omega, HLT.out, HE.out⟩, HBW⟩
        | false =>
          rw [hq] at HCALL
          go_wp2_with (fail)
          refine HCALL.out.mono ?_
          rintro e w5 ⟨rfl, hb⟩
          replace HBW := Lib.hid (bel_trans HBW.out hb)
          have HE := Lib.hid (show allL q l m = false from by have := HD.out; rw [hq, Bool.false_and] at this; exact this)
          clear hb hq
          go_wp2_with (fail)
          go_ret
          exact ⟨by rw [HE.out]; rfl, HBW.out⟩
      · obtain rfl : k = l.length := by have := HK.out.2.1; omega
        have HE := Lib.hid (show allL q l m = true from by have := HK.out.2.2; rw [List.drop_length, HLEN.out, List.drop_length] at this; exact this)
        go_wp2_with (fail)
        go_ret
        exact ⟨by rw [HE.out]; rfl, HBW.out⟩
  · have t1 : ((l.length : Int) != (m.length : Int)) = true := by simp [bne, beq_eq_false_iff_ne]; omega
    rw [allL_len q l m hlen]
    clear hlen
    go_enter Try.func57, Try.ntmps57
    go_wp2_with (fail)
    go_ret
    exact ⟨rfl, HBW.out⟩
set_option maxRecDepth 100000 in
set_option maxHeartbeats 2000000 in
theorem equalAlike_any (q : Ty → Ty → Bool) (A B : Option Addr) (c d : Nat) (l m : List Ty) (w : World) (hA : Kd.C kTy w A l.length l) (hB : Kd.C kTy w B m.length m) (hc : l.length ≤ c) (hd : m.length ≤ d)
    (hF : ∀ x ∈ l, ∀ y ∈ m, ∀ (A' B' : Option Addr) (c' d' : Nat) (W : World), Kd.C kTy W A' x.f4.length x.f4 → x.f4.length ≤ c' → Kd.C kTy W B' y.f4.length y.f4 → y.f4.length ≤ d' →
      Calls Try.prog 27 #[tyV x A' c', tyV y B' d'] W fun e W' => e = .returned (.bool (q x y)) ∧ Below W.heap.size W W') :
    Calls Try.prog 57 #[.slice A l.length c, .slice B m.length d, .func (.func 27) #[] #[]] w fun e w' => e = .returned (.bool (allL q l m)) ∧ Below w.heap.size w w' := by
  have HF := Lib.hid hF
  clear hF
  have hlm : l.length ≤ 9223372036854775807 := hA.2.1
  have hmm : m.length ≤ 9223372036854775807 := hB.2.1
  have HA := Lib.hid hA
  have HB := Lib.hid hB
  have HBW := Lib.hid (Below.refl w.heap.size w)
  clear hA hB
  by_cases hlen : l.length = m.length
  · have HLEN := Lib.hid hlen
    have t1 : ((l.length : Int) != (m.length : Int)) = false := by rw [hlen]; simp
    clear hlen
    go_enter Try.func57, Try.ntmps57
    go_wp2_with (fail)
    go_loopg [17] (l.length + 1) (fun kq v17 W => ∃ k : Nat, v17 = .int .i64 k ∧ Hid (kq + k = l.length + 1 ∧ k ≤ l.length ∧ allL q l m = allL q (l.drop k) (m.drop k)) ∧ Hid (Below w.heap.size w W))
    case atStart => exact ⟨0, rfl, Lib.hid ⟨rfl, Nat.zero_le _, rfl⟩, HBW⟩
    case round =>
      clear HBW
      obtain ⟨k, rfl, HK, HBW⟩ := hrel
      by_cases hlt : k < l.length
      · have hkm : k < m.length := by have := HLEN.out; omega
        obtain ⟨x, hx⟩ : ∃ x, l[k]? = some x := ⟨_, List.getElem?_eq_getElem hlt⟩
        obtain ⟨y, hy⟩ : ∃ y, m[k]? = some y := ⟨_, List.getElem?_eq_getElem hkm⟩
        obtain ⟨ad, A4, c4, hA1, x0, x1, x2, x3, x4, l4, h4⟩ := at_T29 (Kd.C_below HA.out HBW.out) (k : Int) (by omega) (by omega)
        obtain ⟨bd, B4, d4, hB1, y0, y1, y2, y3, y4, m4, g4⟩ := at_T29 (Kd.C_below HB.out HBW.out) (k : Int) (by omega) (by omega)
        subst hA1 hB1
        rw [show rd_T29 l (k : Int) = x from by unfold rd_T29; rw [Int.toNat_natCast, List.getD_eq_getElem?_getD, hx]; rfl] at x0 x1 x2 x3 x4 l4 h4
        rw [show rd_T29 m (k : Int) = y from by unfold rd_T29; rw [Int.toNat_natCast, List.getD_eq_getElem?_getD, hy]; rfl] at y0 y1 y2 y3 y4 m4 g4
        rw [Int.toNat_natCast] at x0 x1 x2 x3 x4 y0 y1 y2 y3 y4
        have z0 := cell_later (bel_alloc (Below.refl wr.heap.size wr) (.cells #[.int .i64 x.f0, .string x.f1, .string x.f2, .int .i64 x.f3, .slice A4 x.f4.length c4] 29)) y0
        have z1 := cell_later (bel_alloc (Below.refl wr.heap.size wr) (.cells #[.int .i64 x.f0, .string x.f1, .string x.f2, .int .i64 x.f3, .slice A4 x.f4.length c4] 29)) y1
        have z2 := cell_later (bel_alloc (Below.refl wr.heap.size wr) (.cells #[.int .i64 x.f0, .string x.f1, .string x.f2, .int .i64 x.f3, .slice A4 x.f4.length c4] 29)) y2
        have z3 := cell_later (bel_alloc (Below.refl wr.heap.size wr) (.cells #[.int .i64 x.f0, .string x.f1, .string x.f2, .int .i64 x.f3, .slice A4 x.f4.length c4] 29)) y3
        have z4 := cell_later (bel_alloc (Below.refl wr.heap.size wr) (.cells #[.int .i64 x.f0, .string x.f1, .string x.f2, .int .i64 x.f3, .slice A4 x.f4.length c4] 29)) y4
        have hb0 := bel_alloc (bel_alloc (Below.refl wr.heap.size wr) (.cells #[.int .i64 x.f0, .string x.f1, .string x.f2, .int .i64 x.f3, .slice A4 x.f4.length c4] 29)) (.cells #[.int .i64 y.f0, .string y.f1, .string y.f2, .int .i64 y.f3, .slice B4 y.f4.length d4] 29)
        have HCALL := Lib.hid (HF.out x (List.mem_of_getElem? hx) y (List.mem_of_getElem? hy) A4 B4 c4 d4 _ (Kd.C_below h4 hb0) l4 (Kd.C_below g4 hb0) m4)
        simp only [tyV] at HCALL
        replace HBW := Lib.hid (bel_trans HBW.out hb0)
        have HD := Lib.hid (HK.out.2.2.trans (allL_drop q l m HLEN.out k x y hx hy))
        have i0 : 0 ≤ (k : Int) := by omega
        have i1 : (k : Int) < l.length := by omega
        have i2 : (k : Int) < m.length := by omega
        have HLT := Lib.hid hlt
        clear hx hy h4 g4 l4 m4 y0 y1 y2 y3 y4 hb0
        cases hq : q x y with
        | true =>
          rw [hq] at HCALL
          go_wp2_with (fail)
          refine HCALL.out.mono ?_
          rintro e w5 ⟨rfl, hb⟩
          replace HBW := Lib.hid (bel_trans HBW.out hb)
          have HE := Lib.hid (show allL q l m = allL q (l.drop (k + 1)) (m.drop (k + 1)) from by have := HD.out; rw [hq, Bool.true_and] at this; exact this)
          clear hb hq
          go_wp2_with (fail)
          go_roundg (gk - 1)
          case measure => have := HK.out.1; have := HK.out.2.1; omega
          case rel => exact ⟨k + 1, by go_num, Lib.hid ⟨by have := HK.out.1; have := HLT.out; omega, HLT.out, HE.out⟩, HBW⟩
        | false =>
          rw [hq] at HCALL
          go_wp2_with (fail)
          refine HCALL.out.mono ?_
          rintro e w5 ⟨rfl, hb⟩
          replace HBW := Lib.hid (bel_trans HBW.out hb)
          have HE := Lib.hid (show allL q l m = false from by have := HD.out; rw [hq, Bool.false_and] at this; exact this)
          clear hb hq
          go_wp2_with (fail)
          go_ret
          exact ⟨by rw [HE.out]; rfl, HBW.out⟩
      · obtain rfl : k = l.length := by have := HK.out.2.1; omega
        have HE := Lib.hid (show allL q l m = true from by have := HK.out.2.2; rw [List.drop_length, HLEN.out, List.drop_length] at this; exact this)
        go_wp2_with (fail)
        go_ret
        exact ⟨by rw [HE.out]; rfl, HBW.out⟩
  · have t1 : ((l.length : Int) != (m.length : Int)) = true := by simp [bne, beq_eq_false_iff_ne]; omega
    rw [allL_len q l m hlen]
    clear hlen
    go_enter Try.func57, Try.ntmps57
    go_wp2_with (fail)
    go_ret
    exact ⟨rfl, HBW.out⟩
end Go.Proofs.Ytbhagjhhgmmcgaa
