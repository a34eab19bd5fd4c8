/- Whether two types are the same: plainly; slices.EqualFunc. term.Same: whether two types are the same. sets.Alike: whether two types may be the same. -/
import Derived.Test.YtbhagjhhgmmcgaaTyC
namespace Go.Proofs.Ytbhagjhhgmmcgaa
open Go.RowKit PRef Go.Proofs.YtbhagjhhgmmcgaaW.PrintWords
set_option linter.unusedVariables false

/-- Lists of types, side by side. -/
def allL (q : Ty → Ty → Bool) : List Ty → List Ty → Bool
  | [], [] => true
  | a :: r, b :: s => q a b && allL q r s
  | _, _ => false
theorem allL_len (q : Ty → Ty → Bool) : ∀ (l m : List Ty), l.length ≠ m.length → allL q l m = false
  | [], [], h => absurd rfl h
  | [], _ :: _, _ => rfl
  | _ :: _, [], _ => rfl
  | a :: r, b :: s, h => by
    rw [allL, allL_len q r s (fun e => h (by rw [List.length_cons, List.length_cons, e])), Bool.and_false]
theorem allL_drop (q : Ty → Ty → Bool) (l m : List Ty) (h : l.length = m.length) (k : Nat) (x y : Ty) (hx : l[k]? = some x) (hy : m[k]? = some y) : allL q (l.drop k) (m.drop k) = (q x y && allL q (l.drop (k + 1)) (m.drop (k + 1))) := by
  obtain ⟨h1, rfl⟩ := List.getElem?_eq_some_iff.1 hx
  obtain ⟨h2, rfl⟩ := List.getElem?_eq_some_iff.1 hy
  rw [List.drop_eq_getElem_cons h1, List.drop_eq_getElem_cons h2, allL]

set_option maxRecDepth 100000 in
set_option maxHeartbeats 2000000 in
theorem equalSame_any (q : Ty → Ty → Bool) (A B : Option Addr) (c d : Nat) (l m : List Ty) (w : World) (hA : Kd.C kTy w A l.length l) (hB : Kd.C kTy w B m.length m) (hc : l.length ≤ c) (hd : m.length ≤ d)
    (hF : ∀ x ∈ l, ∀ y ∈ m, ∀ (A' B' : Option Addr) (c' d' : Nat) (W : World), Kd.C kTy W A' x.f4.length x.f4 → x.f4.length ≤ c' → Kd.C kTy W B' y.f4.length y.f4 → y.f4.length ≤ d' →
      Calls Try.prog 58 #[tyV x A' c', tyV y B' d'] W fun e W' => e = .returned (.bool (q x y)) ∧ Below W.heap.size W W') :
    Calls Try.prog 57 #[.slice A l.length c, .slice B m.length d, .func (.func 58) #[] #[]] w fun e w' => e = .returned (.bool (allL q l m)) ∧ Below w.heap.size w w' := by
  have HF := Lib.hid hF
  clear hF
  have hlm : l.length ≤ 9223372036854775807 := hA.2.1
  have hmm : m.length ≤ 9223372036854775807 := hB.2.1
  have HA := Lib.hid hA
  have HB := Lib.hid hB
  have HBW := Lib.hid (Below.refl w.heap.size w)
  clear hA hB
  by_cases hlen : l.length = m.length
  · have HLEN := Lib.hid hlen
    have t1 : ((l.length : Int) != (m.length : Int)) = false := by rw [hlen]; simp
    clear hlen
    go_enter Try.func57, Try.ntmps57
    go_wp2_with (fail)
    go_loopg [17] (l.length + 1) (fun kq v17 W => ∃ k : Nat, v17 = .int .i64 k ∧ Hid (kq + k = l.length + 1 ∧ k ≤ l.length ∧ allL q l m = allL q (l.drop k) (m.drop k)) ∧ Hid (Below w.heap.size w W))
    case atStart => exact ⟨0, rfl, Lib.hid ⟨rfl, Nat.zero_le _, rfl⟩, HBW⟩
    case round =>
      clear HBW
      obtain ⟨k, rfl, HK, HBW⟩ := hrel
      by_cases hlt : k < l.length
      · have hkm : k < m.length := by have := HLEN.out; omega
        obtain ⟨x, hx⟩ : ∃ x, l[k]? = some x := ⟨_, List.getElem?_eq_getElem hlt⟩
        obtain ⟨y, hy⟩ : ∃ y, m[k]? = some y := ⟨_, List.getElem?_eq_getElem hkm⟩
        obtain ⟨ad, A4, c4, hA1, x0, x1, x2, x3, x4, l4, h4⟩ := at_T29 (Kd.C_below HA.out HBW.out) (k : Int) (by omega) (by omega)
        obtain ⟨bd, B4, d4, hB1, y0, y1, y2, y3, y4, m4, g4⟩ := at_T29 (Kd.C_below HB.out HBW.out) (k : Int) (by omega) (by omega)
        subst hA1 hB1
        rw [show rd_T29 l (k : Int) = x from by unfold rd_T29; rw [Int.toNat_natCast, List.getD_eq_getElem?_getD, hx]; rfl] at x0 x1 x2 x3 x4 l4 h4
        rw [show rd_T29 m (k : Int) = y from by unfold rd_T29; rw [Int.toNat_natCast, List.getD_eq_getElem?_getD, hy]; rfl] at y0 y1 y2 y3 y4 m4 g4
        rw [Int.toNat_natCast] at x0 x1 x2 x3 x4 y0 y1 y2 y3 y4
        have z0 := cell_later (bel_alloc (Below.refl wr.heap.size wr) (.cells #[.int .i64 x.f0, .string x.f1, .string x.f2, .int .i64 x.f3, .slice A4 x.f4.length c4] 29)) y0
        have z1 := cell_later (bel_alloc (Below.refl wr.heap.size wr) (.cells #[.int .i64 x.f0, .string x.f1, .string x.f2, .int .i64 x.f3, .slice A4 x.f4.length c4] 29)) y1
        have z2 := cell_later (bel_alloc (Below.refl wr.heap.size wr) (.cells #[.int .i64 x.f0, .string x.f1, .string x.f2, .int .i64 x.f3, .slice A4 x.f4.length c4] 29)) y2
        have z3 := cell_later (bel_alloc (Below.refl wr.heap.size wr) (.cells #[.int .i64 x.f0, .string x.f1, .string x.f2, .int .i64 x.f3, .slice A4 x.f4.length c4] 29)) y3
        have z4 := cell_later (bel_alloc (Below.refl wr.heap.size wr) (.cells #[.int .i64 x.f0, .string x.f1, .string x.f2, .int .i64 x.f3, .slice A4 x.f4.length c4] 29)) y4
        have hb0 := bel_alloc (bel_alloc (Below.refl wr.heap.size wr) (.cells #[.int .i64 x.f0, .string x.f1, .string x.f2, .int .i64 x.f3, .slice A4 x.f4.length c4] 29)) (.cells #[.int .i64 y.f0, .string y.f1, .string y.f2, .int .i64 y.f3, .slice B4 y.f4.length d4] 29)
        have HCALL := Lib.hid (HF.out x (List.mem_of_getElem? hx) y (List.mem_of_getElem? hy) A4 B4 c4 d4 _ (Kd.C_below h4 hb0) l4 (Kd.C_below g4 hb0) m4)
        simp only [tyV] at HCALL
        replace HBW := Lib.hid (bel_trans HBW.out hb0)
        have HD := Lib.hid (HK.out.2.2.trans (allL_drop q l m HLEN.out k x y hx hy))
        have i0 : 0 ≤ (k : Int) := by omega
        have i1 : (k : Int) < l.length := by omega
        have i2 : (k : Int) < m.length := by omega
        have HLT := Lib.hid hlt
        clear hx hy h4 g4 l4 m4 y0 y1 y2 y3 y4 hb0
        cases hq : q x y with
        | true =>
          rw [hq] at HCALL
          go_wp2_with (fail)
          refine HCALL.out.mono ?_
          rintro e w5 ⟨rfl, hb⟩
          replace HBW := Lib.hid (bel_trans HBW.out hb)
          have HE := Lib.hid (show allL q l m = allL q (l.drop (k + 1)) (m.drop (k + 1)) from by have := HD.out; rw [hq, Bool.true_and] at this; exact this)
          clear hb hq
          go_wp2_with (fail)
          go_roundg (gk - 1)
          case measure => have := HK.out.1; have := HK.out.2.1; omega
          case rel => exact ⟨k + 1, by go_num, Lib.hid ⟨by have := HK.out.1; have := HLT.out; omega, HLT.out, HE.out⟩, HBW⟩
        | false =>
          rw [hq] at HCALL
          go_wp2_with (fail)
          refine HCALL.out.mono ?_
          rintro e w5 ⟨rfl, hb⟩
          replace HBW := Lib.hid (bel_trans HBW.out hb)
          have HE := Lib.hid (show allL q l m = false from by have := HD.out; rw [hq, Bool.false_and] at this; exact this)
          clear hb hq
          go_wp2_with (fail)
          go_ret
          exact ⟨by rw [HE.out]; rfl, HBW.out⟩
      · obtain rfl : k = l.length := by have := HK.out.2.1; omega
        have HE := Lib.hid (show allL q l m = true from by have := HK.out.2.2; rw [List.drop_length, HLEN.out, List.drop_length] at this; exact this)
        go_wp2_with (fail)
        go_ret
        exact ⟨by rw [HE.out]; rfl, HBW.out⟩
  · have t1 : ((l.length : Int) != (m.length : Int)) = true := by simp [bne, beq_eq_false_iff_ne]; omega
    rw [allL_len q l m hlen]
    clear hlen
    go_enter Try.func57, Try.ntmps57
    go_wp2_with (fail)
    go_ret
    exact ⟨rfl, HBW.out⟩
set_option maxRecDepth 100000 in
set_option maxHeartbeats 2000000 in
theorem equalAlike_any (q : Ty → Ty → Bool) (A B : Option Addr) (c d : Nat) (l m : List Ty) (w : World) (hA : Kd.C kTy w A l.length l) (hB : Kd.C kTy w B m.length m) (hc : l.length ≤ c) (hd : m.length ≤ d)
    (hF : ∀ x ∈ l, ∀ y ∈ m, ∀ (A' B' : Option Addr) (c' d' : Nat) (W : World), Kd.C kTy W A' x.f4.length x.f4 → x.f4.length ≤ c' → Kd.C kTy W B' y.f4.length y.f4 → y.f4.length ≤ d' →
      Calls Try.prog 27 #[tyV x A' c', tyV y B' d'] W fun e W' => e = .returned (.bool (q x y)) ∧ Below W.heap.size W W') :
    Calls Try.prog 57 #[.slice A l.length c, .slice B m.length d, .func (.func 27) #[] #[]] w fun e w' => e = .returned (.bool (allL q l m)) ∧ Below w.heap.size w w' := by
  have HF := Lib.hid hF
  clear hF
  have hlm : l.length ≤ 9223372036854775807 := hA.2.1
  have hmm : m.length ≤ 9223372036854775807 := hB.2.1
  have HA := Lib.hid hA
  have HB := Lib.hid hB
  have HBW := Lib.hid (Below.refl w.heap.size w)
  clear hA hB
  by_cases hlen : l.length = m.length
  · have HLEN := Lib.hid hlen
    have t1 : ((l.length : Int) != (m.length : Int)) = false := by rw [hlen]; simp
    clear hlen
    go_enter Try.func57, Try.ntmps57
    go_wp2_with (fail)
    go_loopg [17] (l.length + 1) (fun kq v17 W => ∃ k : Nat, v17 = .int .i64 k ∧ Hid (kq + k = l.length + 1 ∧ k ≤ l.length ∧ allL q l m = allL q (l.drop k) (m.drop k)) ∧ Hid (Below w.heap.size w W))
    case atStart => exact ⟨0, rfl, Lib.hid ⟨rfl, Nat.zero_le _, rfl⟩, HBW⟩
    case round =>
      clear HBW
      obtain ⟨k, rfl, HK, HBW⟩ := hrel
      by_cases hlt : k < l.length
      · have hkm : k < m.length := by have := HLEN.out; omega
        obtain ⟨x, hx⟩ : ∃ x, l[k]? = some x := ⟨_, List.getElem?_eq_getElem hlt⟩
        obtain ⟨y, hy⟩ : ∃ y, m[k]? = some y := ⟨_, List.getElem?_eq_getElem hkm⟩
        obtain ⟨ad, A4, c4, hA1, x0, x1, x2, x3, x4, l4, h4⟩ := at_T29 (Kd.C_below HA.out HBW.out) (k : Int) (by omega) (by omega)
        obtain ⟨bd, B4, d4, hB1, y0, y1, y2, y3, y4, m4, g4⟩ := at_T29 (Kd.C_below HB.out HBW.out) (k : Int) (by omega) (by omega)
        subst hA1 hB1
        rw [show rd_T29 l (k : Int) = x from by unfold rd_T29; rw [Int.toNat_natCast, List.getD_eq_getElem?_getD, hx]; rfl] at x0 x1 x2 x3 x4 l4 h4
        rw [show rd_T29 m (k : Int) = y from by unfold rd_T29; rw [Int.toNat_natCast, List.getD_eq_getElem?_getD, hy]; rfl] at y0 y1 y2 y3 y4 m4 g4
        rw [Int.toNat_natCast] at x0 x1 x2 x3 x4 y0 y1 y2 y3 y4
        have z0 := cell_later (bel_alloc (Below.refl wr.heap.size wr) (.cells #[.int .i64 x.f0, .string x.f1, .string x.f2, .int .i64 x.f3, .slice A4 x.f4.length c4] 29)) y0
        have z1 := cell_later (bel_alloc (Below.refl wr.heap.size wr) (.cells #[.int .i64 x.f0, .string x.f1, .string x.f2, .int .i64 x.f3, .slice A4 x.f4.length c4] 29)) y1
        have z2 := cell_later (bel_alloc (Below.refl wr.heap.size wr) (.cells #[.int .i64 x.f0, .string x.f1, .string x.f2, .int .i64 x.f3, .slice A4 x.f4.length c4] 29)) y2
        have z3 := cell_later (bel_alloc (Below.refl wr.heap.size wr) (.cells #[.int .i64 x.f0, .string x.f1, .string x.f2, .int .i64 x.f3, .slice A4 x.f4.length c4] 29)) y3
        have z4 := cell_later (bel_alloc (Below.refl wr.heap.size wr) (.cells #[.int .i64 x.f0, .string x.f1, .string x.f2, .int .i64 x.f3, .slice A4 x.f4.length c4] 29)) y4
        have hb0 := bel_alloc (bel_alloc (Below.refl wr.heap.size wr) (.cells #[.int .i64 x.f0, .string x.f1, .string x.f2, .int .i64 x.f3, .slice A4 x.f4.length c4] 29)) (.cells #[.int .i64 y.f0, .string y.f1, .string y.f2, .int .i64 y.f3, .slice B4 y.f4.length d4] 29)
        have HCALL := Lib.hid (HF.out x (List.mem_of_getElem? hx) y (List.mem_of_getElem? hy) A4 B4 c4 d4 _ (Kd.C_below h4 hb0) l4 (Kd.C_below g4 hb0) m4)
        simp only [tyV] at HCALL
        replace HBW := Lib.hid (bel_trans HBW.out hb0)
        have HD := Lib.hid (HK.out.2.2.trans (allL_drop q l m HLEN.out k x y hx hy))
        have i0 : 0 ≤ (k : Int) := by omega
        have i1 : (k : Int) < l.length := by omega
        have i2 : (k : Int) < m.length := by omega
        have HLT := Lib.hid hlt
        clear hx hy h4 g4 l4 m4 y0 y1 y2 y3 y4 hb0
        cases hq : q x y with
        | true =>
          rw [hq] at HCALL
          go_wp2_with (fail)
          refine HCALL.out.mono ?_
          rintro e w5 ⟨rfl, hb⟩
          replace HBW := Lib.hid (bel_trans HBW.out hb)
          have HE := Lib.hid (show allL q l m = allL q (l.drop (k + 1)) (m.drop (k + 1)) from by have := HD.out; rw [hq, Bool.true_and] at this; exact this)
          clear hb hq
          go_wp2_with (fail)
          go_roundg (gk - 1)
          case measure => have := HK.out.1; have := HK.out.2.1; omega
          case rel => exact ⟨k + 1, by go_num, Lib.hid ⟨by have := HK.out.1; have := HLT.out; omega, HLT.out, HE.out⟩, HBW⟩
        | false =>
          rw [hq] at HCALL
          go_wp2_with (fail)
          refine HCALL.out.mono ?_
          rintro e w5 ⟨rfl, hb⟩
          replace HBW := Lib.hid (bel_trans HBW.out hb)
          have HE := Lib.hid (show allL q l m = false from by have := HD.out; rw [hq, Bool.false_and] at this; exact this)
          clear hb hq
          go_wp2_with (fail)
          go_ret
          exact ⟨by rw [HE.out]; rfl, HBW.out⟩
      · obtain rfl : k = l.length := by have := HK.out.2.1; omega
        have HE := Lib.hid (show allL q l m = true from by have := HK.out.2.2; rw [List.drop_length, HLEN.out, List.drop_length] at this; exact this)
        go_wp2_with (fail)
        go_ret
        exact ⟨by rw [HE.out]; rfl, HBW.out⟩
  · have t1 : ((l.length : Int) != (m.length : Int)) = true := by simp [bne, beq_eq_false_iff_ne]; omega
    rw [allL_len q l m hlen]
    clear hlen
    go_enter Try.func57, Try.ntmps57
    go_wp2_with (fail)
    go_ret
    exact ⟨rfl, HBW.out⟩
end Go.Proofs.Ytbhagjhhgmmcgaa
namespace Go.Proofs.Ytbhagjhhgmmcgaa
open Go.RowKit PRef Go.Proofs.YtbhagjhhgmmcgaaW.PrintWords
set_option linter.unusedVariables false

mutual
def sameT : Ty → Ty → Bool
  | ⟨k, p, n, m, l⟩, ⟨k', p', n', m', l'⟩ =>
    if k ≠ k' then false
    else if k = 4 then decide (p = p' ∧ n = n')
    else if k = 5 then sameL l l'
    else if k = 6 then decide (m = m')
    else if 0 ≤ k ∧ k ≤ 7 then true
    else decide (p = p' ∧ n = n' ∧ m = m') && sameL l l'
def sameL : List Ty → List Ty → Bool
  | [], [] => true
  | a :: r, b :: s => sameT a b && sameL r s
  | _, _ => false
end
theorem sameL_all : ∀ (l m : List Ty), sameL l m = allL sameT l m
  | [], [] => rfl
  | [], _ :: _ => rfl
  | _ :: _, [] => rfl
  | a :: r, b :: s => by rw [sameL, allL, sameL_all r s]
/-- Each type, from within. -/
inductive TyAll : Ty → Prop where
  | mk (t : Ty) (hs : ∀ x ∈ t.f4, TyAll x) : TyAll t
mutual
theorem tyAll : ∀ t : Ty, TyAll t
  | ⟨k, p, n, m, l⟩ => .mk _ (tyAllL l)
theorem tyAllL : ∀ (l : List Ty), ∀ x ∈ l, TyAll x
  | [], _, h => by cases h
  | a :: r, x, h => by
    rcases List.mem_cons.1 h with e | h
    · rw [e]; exact tyAll a
    · exact tyAllL r x h
end
theorem ba_ne {x y : ByteArray} (h : ¬ x = y) : (x.toList == y.toList) = false := by
  rw [beq_eq_false_iff_ne]
  intro hh
  apply h
  rw [ByteArray.toList_eq, ByteArray.toList_eq] at hh
  apply ByteArray.ext
  exact Array.toList_inj.1 hh
theorem ba_neP {x y : ByteArray} (h : ¬ x = y) : ¬ x.toList = y.toList := beq_eq_false_iff_ne.1 (ba_ne h)

/-- The closure within Same: whether what the two types bear is the same. -/
theorem sameArgs_any {k : Int} {p n : ByteArray} {m : Int} {l : List Ty} {A : Option Addr} {c : Nat} {k' : Int} {p' n' : ByteArray} {m' : Int} {l' : List Ty} {B : Option Addr} {d : Nat} {g g' : Nat} {w : World}
    (hg : w.heap[g]? = some (.cells #[.int .i64 k, .string p, .string n, .int .i64 m, .slice A l.length c] 29 (0, 0))) (hg' : w.heap[g']? = some (.cells #[.int .i64 k', .string p', .string n', .int .i64 m', .slice B l'.length d] 29 (0, 0)))
    (hA : Kd.C kTy w A l.length l) (hB : Kd.C kTy w B l'.length l') (hc : l.length ≤ c) (hd : l'.length ≤ d)
    (hF : ∀ x ∈ l, ∀ y ∈ l', ∀ (A' B' : Option Addr) (c' d' : Nat) (W : World), Kd.C kTy W A' x.f4.length x.f4 → x.f4.length ≤ c' → Kd.C kTy W B' y.f4.length y.f4 → y.f4.length ≤ d' →
      Calls Try.prog 58 #[tyV x A' c', tyV y B' d'] W fun e W' => e = .returned (.bool (sameT x y)) ∧ Below W.heap.size W W') :
    Calls Try.prog 77 #[.pointer (some ⟨g, 0, none⟩), .pointer (some ⟨g', 0, none⟩)] w fun e w' => e = .returned (.bool (sameL l l')) ∧ Below w.heap.size w w' := by
  have x4 := (blk_cell hg 4).trans rfl
  have y4 := (blk_cell hg' 4).trans rfl
  have HC := Lib.hid (equalSame_any sameT A B c d l l' w hA hB hc hd hF)
  rw [sameL_all]
  clear hF hA hB hg hg' hc hd
  go_enter Try.func77, Try.ntmps77
  go_wp2_with (fail)
  refine HC.out.mono ?_
  rintro e w1 ⟨rfl, hb⟩
  have HB := Lib.hid hb
  clear hb
  go_wp2_with (fail)
  go_ret
  exact ⟨rfl, HB.out⟩

set_option maxRecDepth 100000 in
set_option maxHeartbeats 4000000 in
theorem same_any {a : Ty} (ha : TyAll a) : ∀ (b : Ty) (A B : Option Addr) (c d : Nat) (w : World), Kd.C kTy w A a.f4.length a.f4 → a.f4.length ≤ c → Kd.C kTy w B b.f4.length b.f4 → b.f4.length ≤ d →
    Calls Try.prog 58 #[tyV a A c, tyV b B d] w fun e w' => e = .returned (.bool (sameT a b)) ∧ Below w.heap.size w w' := by
  induction ha with
  | mk a hs ih =>
  intro b A B c d w hA hc hB hd
  obtain ⟨k, p, n, m, l⟩ := a
  obtain ⟨k', p', n', m', l'⟩ := b
  simp only at hA hc hB hd ih
  have HBB := Lib.hid (bel_alloc (bel_alloc (Below.refl w.heap.size w) (.cells #[.int .i64 k, .string p, .string n, .int .i64 m, .slice A l.length c] 29)) (.cells #[.int .i64 k', .string p', .string n', .int .i64 m', .slice B l'.length d] 29))
  have hw := bel_alloc (bel_alloc (Below.refl w.heap.size w) (.cells #[.int .i64 k, .string p, .string n, .int .i64 m, .slice A l.length c] 29)) (.cells #[.int .i64 k', .string p', .string n', .int .i64 m', .slice B l'.length d] 29)
  have HS := Lib.hid (sameArgs_any (blk_alloc (blk_new w (.cells #[.int .i64 k, .string p, .string n, .int .i64 m, .slice A l.length c] 29)) (.cells #[.int .i64 k', .string p', .string n', .int .i64 m', .slice B l'.length d] 29)) (show ((w.alloc (.cells #[.int .i64 k, .string p, .string n, .int .i64 m, .slice A l.length c] 29)).alloc (.cells #[.int .i64 k', .string p', .string n', .int .i64 m', .slice B l'.length d] 29)).heap[w.heap.size + 1]? = _ by simpa using blk_new (w.alloc (.cells #[.int .i64 k, .string p, .string n, .int .i64 m, .slice A l.length c] 29)) (.cells #[.int .i64 k', .string p', .string n', .int .i64 m', .slice B l'.length d] 29)) (Kd.C_below hA hw) (Kd.C_below hB hw) hc hd (fun x hx y hy A' B' c' d' W h1 h2 h3 h4 => ih x hx y A' B' c' d' W h1 h2 h3 h4))
  clear hA hB hs ih hw
  simp only [tyV]
  by_cases hk : k = k'
  · subst hk
    have t0 : (k != k) = false := by simp
    by_cases h4 : k = 4
    · have e4 : (k == 4) = true := by simp [h4]
      by_cases hp : p = p'
      · subst hp
        by_cases hn : n = n'
        · subst hn
          rw [show sameT ⟨k, p, n, m, l⟩ ⟨k, p, n, m', l'⟩ = true by simp [sameT, h4]]
          clear h4
          go_enter Try.func58, Try.ntmps58
          go_wp2_with (fail)
          go_ret
          exact ⟨rfl, HBB.out⟩
        · have s2 := ba_ne hn
          have s3 := ba_neP hn
          rw [show sameT ⟨k, p, n, m, l⟩ ⟨k, p, n', m', l'⟩ = false by simp [sameT, h4, hn]]
          clear h4 hn
          go_enter Try.func58, Try.ntmps58
          go_wp2_with (fail)
          go_ret
          exact ⟨rfl, HBB.out⟩
      · have s0 := ba_ne hp
        have s1 := ba_neP hp
        rw [show sameT ⟨k, p, n, m, l⟩ ⟨k, p', n', m', l'⟩ = false by simp [sameT, h4, hp]]
        clear h4 hp
        go_enter Try.func58, Try.ntmps58
        go_wp2_with (fail)
        go_ret
        exact ⟨rfl, HBB.out⟩
    · have e4 : (k == 4) = false := beq_eq_false_iff_ne.2 h4
      by_cases h5 : k = 5
      · have e5 : (k == 5) = true := by simp [h5]
        rw [show sameT ⟨k, p, n, m, l⟩ ⟨k, p', n', m', l'⟩ = sameL l l' by simp [sameT, h5]]
        clear h4 h5
        go_enter Try.func58, Try.ntmps58
        go_wp2_with (fail)
        refine HS.out.mono ?_
        rintro e w1 ⟨rfl, hb⟩
        have HB2 := Lib.hid (bel_trans HBB.out hb)
        clear hb
        go_wp2_with (fail)
        go_ret
        exact ⟨rfl, HB2.out⟩
      · have e5 : (k == 5) = false := beq_eq_false_iff_ne.2 h5
        by_cases h6 : k = 6
        · have e6 : (k == 6) = true := by simp [h6]
          by_cases hm : m = m'
          · subst hm
            rw [show sameT ⟨k, p, n, m, l⟩ ⟨k, p', n', m, l'⟩ = true by simp [sameT, h6]]
            clear h4 h5 h6
            go_enter Try.func58, Try.ntmps58
            go_wp2_with (fail)
            go_ret
            exact ⟨rfl, HBB.out⟩
          · have em : (m == m') = false := beq_eq_false_iff_ne.2 hm
            rw [show sameT ⟨k, p, n, m, l⟩ ⟨k, p', n', m', l'⟩ = false by simp [sameT, h6, hm]]
            clear h4 h5 h6
            go_enter Try.func58, Try.ntmps58
            go_wp2_with (fail)
            go_ret
            exact ⟨rfl, HBB.out⟩
        · have e6 : (k == 6) = false := beq_eq_false_iff_ne.2 h6
          by_cases h07 : 0 ≤ k ∧ k ≤ 7
          · obtain ⟨g0, g7⟩ := h07
            rw [show sameT ⟨k, p, n, m, l⟩ ⟨k, p', n', m', l'⟩ = true by simp [sameT, h4, h5, h6, g0, g7]]
            have G0 : decide (0 ≤ k) = true := decide_eq_true g0
            have G7 : decide (k ≤ 7) = true := decide_eq_true g7
            clear h4 h5 h6
            go_enter Try.func58, Try.ntmps58
            go_wp2_with (fail)
            go_ret
            exact ⟨rfl, HBB.out⟩
          · have hT : sameT ⟨k, p, n, m, l⟩ ⟨k, p', n', m', l'⟩ = (decide (p = p' ∧ n = n' ∧ m = m') && sameL l l') := by simp [sameT, h4, h5, h6, h07]
            have h07' : k < 0 ∨ 7 < k := by omega
            rw [hT]
            clear hT h4 h5 h6 h07
            rcases h07' with g | g
            · have G0 : decide (0 ≤ k) = false := decide_eq_false (by omega)
              have G1 : ¬ 0 ≤ k := by omega
              by_cases hp : p = p'
              · subst hp
                by_cases hn : n = n'
                · subst hn
                  by_cases hm : m = m'
                  · subst hm
                    go_enter Try.func58, Try.ntmps58
                    go_wp2_with (fail)
                    refine HS.out.mono ?_
                    rintro e w1 ⟨rfl, hb⟩
                    have HB2 := Lib.hid (bel_trans HBB.out hb)
                    clear hb
                    go_wp2_with (fail)
                    go_ret
                    exact ⟨by simp, HB2.out⟩
                  · have em : (m == m') = false := beq_eq_false_iff_ne.2 hm
                    rw [show (decide (p = p ∧ n = n ∧ m = m') && sameL l l') = false by simp [hm]]
                    go_enter Try.func58, Try.ntmps58
                    go_wp2_with (fail)
                    go_ret
                    exact ⟨rfl, HBB.out⟩
                · have s2 := ba_ne hn
                  have s3 := ba_neP hn
                  rw [show (decide (p = p ∧ n = n' ∧ m = m') && sameL l l') = false by simp [hn]]
                  clear hn
                  go_enter Try.func58, Try.ntmps58
                  go_wp2_with (fail)
                  go_ret
                  exact ⟨rfl, HBB.out⟩
              · have s0 := ba_ne hp
                have s1 := ba_neP hp
                rw [show (decide (p = p' ∧ n = n' ∧ m = m') && sameL l l') = false by simp [hp]]
                clear hp
                go_enter Try.func58, Try.ntmps58
                go_wp2_with (fail)
                go_ret
                exact ⟨rfl, HBB.out⟩
            · have G0 : decide (0 ≤ k) = true := decide_eq_true (by omega)
              have G2 : 0 ≤ k := by omega
              have G7 : decide (k ≤ 7) = false := decide_eq_false (by omega)
              have G1 : ¬ k ≤ 7 := by omega
              by_cases hp : p = p'
              · subst hp
                by_cases hn : n = n'
                · subst hn
                  by_cases hm : m = m'
                  · subst hm
                    go_enter Try.func58, Try.ntmps58
                    go_wp2_with (fail)
                    refine HS.out.mono ?_
                    rintro e w1 ⟨rfl, hb⟩
                    have HB2 := Lib.hid (bel_trans HBB.out hb)
                    clear hb
                    go_wp2_with (fail)
                    go_ret
                    exact ⟨by simp, HB2.out⟩
                  · have em : (m == m') = false := beq_eq_false_iff_ne.2 hm
                    rw [show (decide (p = p ∧ n = n ∧ m = m') && sameL l l') = false by simp [hm]]
                    go_enter Try.func58, Try.ntmps58
                    go_wp2_with (fail)
                    go_ret
                    exact ⟨rfl, HBB.out⟩
                · have s2 := ba_ne hn
                  have s3 := ba_neP hn
                  rw [show (decide (p = p ∧ n = n' ∧ m = m') && sameL l l') = false by simp [hn]]
                  clear hn
                  go_enter Try.func58, Try.ntmps58
                  go_wp2_with (fail)
                  go_ret
                  exact ⟨rfl, HBB.out⟩
              · have s0 := ba_ne hp
                have s1 := ba_neP hp
                rw [show (decide (p = p' ∧ n = n' ∧ m = m') && sameL l l') = false by simp [hp]]
                clear hp
                go_enter Try.func58, Try.ntmps58
                go_wp2_with (fail)
                go_ret
                exact ⟨rfl, HBB.out⟩
  · have t0 : (k != k') = true := by simp [hk]
    have t1 : (k == k') = false := beq_eq_false_iff_ne.2 hk
    rw [show sameT ⟨k, p, n, m, l⟩ ⟨k', p', n', m', l'⟩ = false by simp [sameT, hk]]
    go_enter Try.func58, Try.ntmps58
    go_wp2_with (fail)
    go_ret
    exact ⟨rfl, HBB.out⟩
end Go.Proofs.Ytbhagjhhgmmcgaa
namespace Go.Proofs.Ytbhagjhhgmmcgaa
open Go.RowKit PRef Go.Proofs.YtbhagjhhgmmcgaaW.PrintWords
set_option linter.unusedVariables false

mutual
def alikeT : Ty → Ty → Bool
  | ⟨k, p, n, m, l⟩, ⟨k', p', n', m', l'⟩ =>
    if k = 0 then true
    else if k' = 0 then true
    else if k = 5 ∧ k' = 5 then alikeL l l'
    else sameT ⟨k, p, n, m, l⟩ ⟨k', p', n', m', l'⟩
def alikeL : List Ty → List Ty → Bool
  | [], [] => true
  | a :: r, b :: s => alikeT a b && alikeL r s
  | _, _ => false
end
theorem alikeL_all : ∀ (l m : List Ty), alikeL l m = allL alikeT l m
  | [], [] => rfl
  | [], _ :: _ => rfl
  | _ :: _, [] => rfl
  | a :: r, b :: s => by rw [alikeL, allL, alikeL_all r s]

set_option maxRecDepth 100000 in
set_option maxHeartbeats 4000000 in
theorem alike_any {a : Ty} (ha : TyAll a) : ∀ (b : Ty) (A B : Option Addr) (c d : Nat) (w : World), Kd.C kTy w A a.f4.length a.f4 → a.f4.length ≤ c → Kd.C kTy w B b.f4.length b.f4 → b.f4.length ≤ d →
    Calls Try.prog 27 #[tyV a A c, tyV b B d] w fun e w' => e = .returned (.bool (alikeT a b)) ∧ Below w.heap.size w w' := by
  induction ha with
  | mk a hs ih =>
  intro b A B c d w hA hc hB hd
  have HSAME := Lib.hid (fun W (hb : Below w.heap.size w W) => same_any (tyAll a) b A B c d W (Kd.C_below hA hb) hc (Kd.C_below hB hb) hd)
  obtain ⟨k, p, n, m, l⟩ := a
  obtain ⟨k', p', n', m', l'⟩ := b
  simp only at hA hc hB hd ih
  have HBB := Lib.hid (bel_alloc (bel_alloc (Below.refl w.heap.size w) (.cells #[.int .i64 k, .string p, .string n, .int .i64 m, .slice A l.length c] 29)) (.cells #[.int .i64 k', .string p', .string n', .int .i64 m', .slice B l'.length d] 29))
  have HL := Lib.hid (fun W (hb : Below w.heap.size w W) => equalAlike_any alikeT A B c d l l' W (Kd.C_below hA hb) (Kd.C_below hB hb) hc hd (fun x hx y hy A' B' c' d' W h1 h2 h3 h4 => ih x hx y A' B' c' d' W h1 h2 h3 h4))
  rw [← alikeL_all] at HL
  clear hA hB hs ih hc hd
  simp only [tyV] at *
  by_cases h0 : k = 0
  · have e0 : (k == 0) = true := by simp [h0]
    rw [show alikeT ⟨k, p, n, m, l⟩ ⟨k', p', n', m', l'⟩ = true by simp [alikeT, h0]]
    clear h0
    go_enter Try.func27, Try.ntmps27
    go_wp2_with (fail)
    go_ret
    exact ⟨rfl, HBB.out⟩
  · have e0 : (k == 0) = false := beq_eq_false_iff_ne.2 h0
    by_cases h0' : k' = 0
    · have e0' : (k' == 0) = true := by simp [h0']
      rw [show alikeT ⟨k, p, n, m, l⟩ ⟨k', p', n', m', l'⟩ = true by simp [alikeT, h0']]
      clear h0 h0'
      go_enter Try.func27, Try.ntmps27
      go_wp2_with (fail)
      go_ret
      exact ⟨rfl, HBB.out⟩
    · have e0' : (k' == 0) = false := beq_eq_false_iff_ne.2 h0'
      by_cases h5 : k = 5
      · have e5 : (k == 5) = true := by simp [h5]
        by_cases h5' : k' = 5
        · have e5' : (k' == 5) = true := by simp [h5']
          rw [show alikeT ⟨k, p, n, m, l⟩ ⟨k', p', n', m', l'⟩ = alikeL l l' by simp [alikeT, h5, h5']]
          clear h0 h0' h5 h5'
          go_enter Try.func27, Try.ntmps27
          go_wp2_with (fail)
          refine (HL.out _ HBB.out).mono ?_
          rintro e w1 ⟨rfl, hb⟩
          have HB2 := Lib.hid (bel_trans HBB.out hb)
          clear hb
          go_wp2_with (fail)
          go_ret
          exact ⟨rfl, HB2.out⟩
        · have e5' : (k' == 5) = false := beq_eq_false_iff_ne.2 h5'
          rw [show alikeT ⟨k, p, n, m, l⟩ ⟨k', p', n', m', l'⟩ = sameT ⟨k, p, n, m, l⟩ ⟨k', p', n', m', l'⟩ by simp [alikeT, h0, h0', h5']]
          clear h0 h0' h5 h5'
          go_enter Try.func27, Try.ntmps27
          go_wp2_with (fail)
          refine (HSAME.out _ HBB.out).mono ?_
          rintro e w1 ⟨rfl, hb⟩
          have HB2 := Lib.hid (bel_trans HBB.out hb)
          clear hb
          go_wp2_with (fail)
          go_ret
          exact ⟨rfl, HB2.out⟩
      · have e5 : (k == 5) = false := beq_eq_false_iff_ne.2 h5
        rw [show alikeT ⟨k, p, n, m, l⟩ ⟨k', p', n', m', l'⟩ = sameT ⟨k, p, n, m, l⟩ ⟨k', p', n', m', l'⟩ by simp [alikeT, h0, h0', h5]]
        clear h0 h0' h5
        go_enter Try.func27, Try.ntmps27
        go_wp2_with (fail)
        refine (HSAME.out _ HBB.out).mono ?_
        rintro e w1 ⟨rfl, hb⟩
        have HB2 := Lib.hid (bel_trans HBB.out hb)
        clear hb
        go_wp2_with (fail)
        go_ret
        exact ⟨rfl, HB2.out⟩
end Go.Proofs.Ytbhagjhhgmmcgaa
