/- What is the same data is equal: the document's Equal, Types, Methods, SameType. -/
import Derived.Test.YtbhagjhhgmmcgaaTyHA
import Derived.Test.YtbhagjhhgmmcgaaTyT
import Derived.BigQuiet
namespace Go.Proofs.Ytbhagjhhgmmcgaa
open Go.RowKit PRef Go.Proofs.YtbhagjhhgmmcgaaW.PrintWords
set_option linter.unusedVariables false
set_option linter.unusedSimpArgs false

set_option maxRecDepth 100000 in
set_option maxHeartbeats 4000000 in
theorem equal_self {a : Ty} (ha : TyAll a) : ∀ (A B : Option Addr) (c d : Nat) (w : World), Kd.C kTy w A a.f4.length a.f4 → a.f4.length ≤ c → Kd.C kTy w B a.f4.length a.f4 → a.f4.length ≤ d →
    Calls Try.prog 21 #[.agg #[.int .i64 a.f0, .string a.f1, .string a.f2, .int .i64 a.f3, .slice A a.f4.length c], .agg #[.int .i64 a.f0, .string a.f1, .string a.f2, .int .i64 a.f3, .slice B a.f4.length d]] w fun e w' => e = .returned (.bool true) ∧ Below w.heap.size w w' := by
  induction ha with
  | mk t hs ih =>
    intro A B c d w hA hc hB hd
    obtain ⟨k, p, q, m, l⟩ := t
    dsimp only at hs ih hA hc hB hd ⊢
    have hlm : l.length ≤ 9223372036854775807 := hA.2.1
    have HB := Lib.hid (bel_alloc (bel_alloc (Below.refl w.heap.size w) (.cells #[.int .i64 k, .string p, .string q, .int .i64 m, .slice A l.length c] 29)) (.cells #[.int .i64 k, .string p, .string q, .int .i64 m, .slice B l.length d] 29))
    have HT := Lib.hid (blk_alloc (blk_new w (.cells #[.int .i64 k, .string p, .string q, .int .i64 m, .slice A l.length c] 29)) (.cells #[.int .i64 k, .string p, .string q, .int .i64 m, .slice B l.length d] 29))
    have HU := Lib.hid ((show ((w.alloc (.cells #[.int .i64 k, .string p, .string q, .int .i64 m, .slice A l.length c] 29)).alloc (.cells #[.int .i64 k, .string p, .string q, .int .i64 m, .slice B l.length d] 29)).heap[w.heap.size + 1]? = some (.cells #[.int .i64 k, .string p, .string q, .int .i64 m, .slice B l.length d] 29 (0, 0)) from blk_newH _ _ _ (by simp)))
    have HA := Lib.hid hA
    have HA' := Lib.hid hB
    have IH := Lib.hid ih
    clear hA hB ih hs
    go_enter Try.func21, Try.ntmps21
    go_wp2_with (fail)
    go_loopw [5] (fun vi wr => ∃ j : Nat, vi = .int .i64 j ∧ Hid (j ≤ l.length) ∧ Hid (wr.heap[w.heap.size]? = some (.cells #[.int .i64 k, .string p, .string q, .int .i64 m, .slice A l.length c] 29 (0, 0))) ∧ Hid (wr.heap[w.heap.size + 1]? = some (.cells #[.int .i64 k, .string p, .string q, .int .i64 m, .slice B l.length d] 29 (0, 0))) ∧ Hid (Below w.heap.size w wr)) (fun vi _ => l.length - (intOf vi).toNat)
    case atStart => exact ⟨0, rfl, Lib.hid (Nat.zero_le _), HT, HU, HB⟩
    case round =>
      clear HT HU HB
      obtain ⟨j, rfl, HK, HT, HU, HB⟩ := hrel
      have tt := (blk_cell HT.out 4).trans rfl
      have uu := (blk_cell HU.out 4).trans rfl
      by_cases hlt : j < l.length
      · obtain ⟨x, hx⟩ : ∃ x, l[j]? = some x := ⟨_, List.getElem?_eq_getElem hlt⟩
        obtain ⟨ax, X4, e4, hAx, x0, x1, x2, x3, x4, lx, gx⟩ := at_T29 HA.out (j : Int) (by omega) (by omega)
        obtain ⟨ay, Y4, f4, hAy, y0, y1, y2, y3, y4, ly, gy⟩ := at_T29 HA'.out (j : Int) (by omega) (by omega)
        rw [show rd_T29 l (j : Int) = x from by unfold rd_T29; rw [Int.toNat_natCast, List.getD_eq_getElem?_getD, hx]; rfl] at x0 x1 x2 x3 x4 lx gx y0 y1 y2 y3 y4 ly gy
        rw [Int.toNat_natCast] at x0 x1 x2 x3 x4 y0 y1 y2 y3 y4
        subst hAx hAy
        replace x0 := cell_later HB.out x0
        replace x1 := cell_later HB.out x1
        replace x2 := cell_later HB.out x2
        replace x3 := cell_later HB.out x3
        replace x4 := cell_later HB.out x4
        replace y0 := cell_later HB.out y0
        replace y1 := cell_later HB.out y1
        replace y2 := cell_later HB.out y2
        replace y3 := cell_later HB.out y3
        replace y4 := cell_later HB.out y4
        have HI := Lib.hid (IH.out x (List.mem_of_getElem? hx) X4 Y4 e4 f4 wr.drew (Kd.C_below gx (bel_drew HB.out)) lx (Kd.C_below gy (bel_drew HB.out)) ly)
        have i0 : 0 ≤ (j : Int) := by omega
        have i1 : (j : Int) < l.length := by omega
        have HLT := Lib.hid hlt
        clear hx lx gx ly gy
        go_wp2_with (fail)
        go_still_tail 10, (by kernel_rfl)
        change wpList _ _ _ _ _ wr.drew
        go_wp2_with (fail)
        refine HI.out.mono ?_
        rintro e w8 ⟨rfl, hb8⟩
        have hB2 := Lib.hid (bel_trans (bel_drew HB.out) hb8)
        have hT2 := Lib.hid (blk_later hb8 HT.out)
        have hU2 := Lib.hid (blk_later hb8 HU.out)
        clear hb8
        go_wp2_with (fail)
        go_roundw
        case rel => exact ⟨j + 1, by go_num, Lib.hid HLT.out, hT2, hU2, hB2⟩
        case measure => have := HLT.out; simp [intOf]; omega
      · obtain rfl : j = l.length := by have := HK.out; omega
        go_wp2_with (fail)
        go_ret
        exact ⟨rfl, HB.out⟩

set_option maxRecDepth 100000 in
set_option maxHeartbeats 4000000 in
theorem types_self (l : List Ty) (A B : Option Addr) (c d : Nat) (w : World) (hA : Kd.C kTy w A l.length l) (hc : l.length ≤ c) (hB : Kd.C kTy w B l.length l) (hd : l.length ≤ d) :
    Calls Try.prog 38 #[.slice A l.length c, .slice B l.length d] w fun e w' => e = .returned (.bool true) ∧ Below w.heap.size w w' := by
  have hlm : l.length ≤ 9223372036854775807 := hA.2.1
  have HA := Lib.hid hA
  have HA' := Lib.hid hB
  have HB := Lib.hid (Below.refl w.heap.size w)
  clear hA hB
  go_enter Try.func38, Try.ntmps38
  go_wp2_with (fail)
  go_loopw [5] (fun vi wr => ∃ j : Nat, vi = .int .i64 j ∧ Hid (j ≤ l.length) ∧ Hid (Below w.heap.size w wr)) (fun vi _ => l.length - (intOf vi).toNat)
  case atStart => exact ⟨0, rfl, Lib.hid (Nat.zero_le _), HB⟩
  case round =>
    clear HB
    obtain ⟨j, rfl, HK, HB⟩ := hrel
    by_cases hlt : j < l.length
    · obtain ⟨x, hx⟩ : ∃ x, l[j]? = some x := ⟨_, List.getElem?_eq_getElem hlt⟩
      obtain ⟨ax, X4, e4, hAx, x0, x1, x2, x3, x4, lx, gx⟩ := at_T29 HA.out (j : Int) (by omega) (by omega)
      obtain ⟨ay, Y4, f4, hAy, y0, y1, y2, y3, y4, ly, gy⟩ := at_T29 HA'.out (j : Int) (by omega) (by omega)
      rw [show rd_T29 l (j : Int) = x from by unfold rd_T29; rw [Int.toNat_natCast, List.getD_eq_getElem?_getD, hx]; rfl] at x0 x1 x2 x3 x4 lx gx y0 y1 y2 y3 y4 ly gy
      rw [Int.toNat_natCast] at x0 x1 x2 x3 x4 y0 y1 y2 y3 y4
      subst hAx hAy
      replace x0 := cell_later HB.out x0
      replace x1 := cell_later HB.out x1
      replace x2 := cell_later HB.out x2
      replace x3 := cell_later HB.out x3
      replace x4 := cell_later HB.out x4
      replace y0 := cell_later HB.out y0
      replace y1 := cell_later HB.out y1
      replace y2 := cell_later HB.out y2
      replace y3 := cell_later HB.out y3
      replace y4 := cell_later HB.out y4
      have HI := Lib.hid (equal_self (tyAll x) X4 Y4 e4 f4 wr.drew (Kd.C_below gx (bel_drew HB.out)) lx (Kd.C_below gy (bel_drew HB.out)) ly)
      have i0 : 0 ≤ (j : Int) := by omega
      have i1 : (j : Int) < l.length := by omega
      have HLT := Lib.hid hlt
      clear hx lx gx ly gy
      go_wp2_with (fail)
      go_still_tail 8, (by kernel_rfl)
      change wpList _ _ _ _ _ wr.drew
      go_wp2_with (fail)
      refine HI.out.mono ?_
      rintro e w8 ⟨rfl, hb8⟩
      have hB2 := Lib.hid (bel_trans (bel_drew HB.out) hb8)
      clear hb8
      go_wp2_with (fail)
      go_roundw
      case rel => exact ⟨j + 1, by go_num, Lib.hid HLT.out, hB2⟩
      case measure => have := HLT.out; simp [intOf]; omega
    · obtain rfl : j = l.length := by have := HK.out; omega
      go_wp2_with (fail)
      go_ret
      exact ⟨rfl, HB.out⟩

set_option maxRecDepth 100000 in
set_option maxHeartbeats 4000000 in
theorem methods_self (l : List Mth) (A B : Option Addr) (c d : Nat) (w : World) (hA : Kd.C kMth w A l.length l) (hc : l.length ≤ c) (hB : Kd.C kMth w B l.length l) (hd : l.length ≤ d) :
    Calls Try.prog 22 #[.slice A l.length c, .slice B l.length d] w fun e w' => e = .returned (.bool true) ∧ Below w.heap.size w w' := by
  have hlm : l.length ≤ 9223372036854775807 := hA.2.1
  have HA := Lib.hid hA
  have HA' := Lib.hid hB
  have HB := Lib.hid (Below.refl w.heap.size w)
  clear hA hB
  go_enter Try.func22, Try.ntmps22
  go_wp2_with (fail)
  go_loopw [5] (fun vi wr => ∃ j : Nat, vi = .int .i64 j ∧ Hid (j ≤ l.length) ∧ Hid (Below w.heap.size w wr)) (fun vi _ => l.length - (intOf vi).toNat)
  case atStart => exact ⟨0, rfl, Lib.hid (Nat.zero_le _), HB⟩
  case round =>
    clear HB
    obtain ⟨j, rfl, HK, HB⟩ := hrel
    by_cases hlt : j < l.length
    · obtain ⟨x, hx⟩ : ∃ x, l[j]? = some x := ⟨_, List.getElem?_eq_getElem hlt⟩
      obtain ⟨ax, X1, e1, X6, e6, hAx, x0, x1, x2, x3, x4, x5, x6, lx1, gx1, lx6, gx6⟩ := at_T50 HA.out (j : Int) (by omega) (by omega)
      obtain ⟨ay, Y1, f1, Y6, f6, hAy, y0, y1, y2, y3, y4, y5, y6, ly1, gy1, ly6, gy6⟩ := at_T50 HA'.out (j : Int) (by omega) (by omega)
      rw [show rd_T50 l (j : Int) = x from by unfold rd_T50; rw [Int.toNat_natCast, List.getD_eq_getElem?_getD, hx]; rfl] at x0 x1 x2 x3 x4 x5 x6 lx1 gx1 lx6 gx6 y0 y1 y2 y3 y4 y5 y6 ly1 gy1 ly6 gy6
      rw [Int.toNat_natCast] at x0 x1 x2 x3 x4 x5 x6 y0 y1 y2 y3 y4 y5 y6
      subst hAx hAy
      have HXS := Lib.hid (And.intro x0 (And.intro x2 (And.intro x3 (And.intro x4 (And.intro x5 x6)))))
      have HYS := Lib.hid (And.intro y0 (And.intro y2 (And.intro y3 (And.intro y4 (And.intro y5 y6)))))
      replace x1 := cell_later HB.out x1
      replace y1 := cell_later HB.out y1
      have HI := Lib.hid (types_self x.f1 X1 Y1 e1 f1 wr.drew (Kd.C_below gx1 (bel_drew HB.out)) lx1 (Kd.C_below gy1 (bel_drew HB.out)) ly1)
      have HI2 := Lib.hid (fun (W : World) (hb : Below w.heap.size w W) => equal_self (tyAll x.f2) X6 Y6 e6 f6 W (Kd.C_below gx6 hb) lx6 (Kd.C_below gy6 hb) ly6)
      have i0 : 0 ≤ (j : Int) := by omega
      have i1 : (j : Int) < l.length := by omega
      have HLT := Lib.hid hlt
      clear hx lx1 gx1 lx6 gx6 ly1 gy1 ly6 gy6 x0 x2 x3 x4 x5 x6 y0 y2 y3 y4 y5 y6
      go_wp2_with (fail)
      go_still_tail 10, (by kernel_rfl)
      change wpList _ _ _ _ _ wr.drew
      go_wp2_with (fail)
      refine HI.out.mono ?_
      rintro e w8 ⟨rfl, hb8⟩
      have HB2 := Lib.hid (bel_trans (bel_drew HB.out) hb8)
      clear hb8 x1 y1 HI HB
      obtain ⟨x0, x2, x3, x4, x5, x6⟩ := HXS.out
      obtain ⟨y0, y2, y3, y4, y5, y6⟩ := HYS.out
      replace x0 := cell_later HB2.out x0
      replace x2 := cell_later HB2.out x2
      replace x3 := cell_later HB2.out x3
      replace x4 := cell_later HB2.out x4
      replace x5 := cell_later HB2.out x5
      replace x6 := cell_later HB2.out x6
      replace y0 := cell_later HB2.out y0
      replace y2 := cell_later HB2.out y2
      replace y3 := cell_later HB2.out y3
      replace y4 := cell_later HB2.out y4
      replace y5 := cell_later HB2.out y5
      replace y6 := cell_later HB2.out y6
      go_wp2_with (fail)
      go_still_tail 10, (by kernel_rfl)
      change wpList _ _ _ _ _ w8.drew
      go_wp2_with (fail)
      refine (HI2.out _ (bel_drew HB2.out)).mono ?_
      rintro e w9 ⟨rfl, hb9⟩
      have HB3 := Lib.hid (bel_trans (bel_drew HB2.out) hb9)
      clear hb9 HI2 x0 x2 x3 x4 x5 x6 y0 y2 y3 y4 y5 y6
      have x0 := cell_later HB3.out HXS.out.1
      have y0 := cell_later HB3.out HYS.out.1
      go_wp2_with (fail)
      go_quiet (fail)
      go_wp2_with (fail)
      go_roundw
      case rel => exact ⟨j + 1, by go_num, Lib.hid HLT.out, Lib.hid (bel_drewN HB3.out _)⟩
      case measure => have := HLT.out; simp [intOf]; omega
    · obtain rfl : j = l.length := by have := HK.out; omega
      go_wp2_with (fail)
      go_ret
      exact ⟨rfl, HB.out⟩

set_option maxRecDepth 100000 in
set_option maxHeartbeats 4000000 in
theorem sametype_self (z : Dcl) (A B A' B' : Option Addr) (c d c' d' : Nat) (w : World) (hA : Kd.C kFld w A z.f2.length z.f2) (hc : z.f2.length ≤ c) (hB : Kd.C kMth w B z.f3.length z.f3) (hd : z.f3.length ≤ d) (hA' : Kd.C kFld w A' z.f2.length z.f2) (hc' : z.f2.length ≤ c') (hB' : Kd.C kMth w B' z.f3.length z.f3) (hd' : z.f3.length ≤ d') :
    Calls Try.prog 20 #[.agg #[.string z.f0, .bool z.f1, .slice A z.f2.length c, .slice B z.f3.length d], .agg #[.string z.f0, .bool z.f1, .slice A' z.f2.length c', .slice B' z.f3.length d']] w fun e w' => e = .returned (.bool true) ∧ Below w.heap.size w w' := by
  have hlm : z.f2.length ≤ 9223372036854775807 := hA.2.1
  have HB := Lib.hid (bel_alloc (bel_alloc (Below.refl w.heap.size w) (.cells #[.string z.f0, .bool z.f1, .slice A z.f2.length c, .slice B z.f3.length d] 35)) (.cells #[.string z.f0, .bool z.f1, .slice A' z.f2.length c', .slice B' z.f3.length d'] 35))
  have HT := Lib.hid (blk_alloc (blk_new w (.cells #[.string z.f0, .bool z.f1, .slice A z.f2.length c, .slice B z.f3.length d] 35)) (.cells #[.string z.f0, .bool z.f1, .slice A' z.f2.length c', .slice B' z.f3.length d'] 35))
  have HU := Lib.hid ((show ((w.alloc (.cells #[.string z.f0, .bool z.f1, .slice A z.f2.length c, .slice B z.f3.length d] 35)).alloc (.cells #[.string z.f0, .bool z.f1, .slice A' z.f2.length c', .slice B' z.f3.length d'] 35)).heap[w.heap.size + 1]? = some (.cells #[.string z.f0, .bool z.f1, .slice A' z.f2.length c', .slice B' z.f3.length d'] 35 (0, 0)) from blk_newH _ _ _ (by simp)))
  have HFA := Lib.hid hA
  have HFB := Lib.hid hA'
  have HM := Lib.hid (methods_self z.f3 B B' d d' _ (Kd.C_below hB HB.out) hd (Kd.C_below hB' HB.out) hd')
  clear hA hB hA' hB'
  go_enter Try.func20, Try.ntmps20
  go_wp2_with (fail)
  refine HM.out.mono ?_
  rintro e w1 ⟨rfl, hb⟩
  replace HB := Lib.hid (bel_trans HB.out hb)
  replace HT := Lib.hid (blk_later hb HT.out)
  replace HU := Lib.hid (blk_later hb HU.out)
  clear hb HM
  have t0 := (blk_cell HT.out 0).trans rfl
  have t1 := (blk_cell HT.out 1).trans rfl
  have t2 := (blk_cell HT.out 2).trans rfl
  have t3 := (blk_cell HT.out 3).trans rfl
  have u0 := (blk_cell HU.out 0).trans rfl
  have u1 := (blk_cell HU.out 1).trans rfl
  have u2 := (blk_cell HU.out 2).trans rfl
  have u3 := (blk_cell HU.out 3).trans rfl
  go_wp2_with (fail)
  clear t0 t1 t2 t3 u0 u1 u2 u3
  go_loopw [6] (fun vi wr => ∃ j : Nat, vi = .int .i64 j ∧ Hid (j ≤ z.f2.length) ∧ Hid (wr.heap[w.heap.size]? = some (.cells #[.string z.f0, .bool z.f1, .slice A z.f2.length c, .slice B z.f3.length d] 35 (0, 0))) ∧ Hid (wr.heap[w.heap.size + 1]? = some (.cells #[.string z.f0, .bool z.f1, .slice A' z.f2.length c', .slice B' z.f3.length d'] 35 (0, 0))) ∧ Hid (Below w.heap.size w wr)) (fun vi _ => z.f2.length - (intOf vi).toNat)
  case atStart => exact ⟨0, rfl, Lib.hid (Nat.zero_le _), HT, HU, HB⟩
  case round =>
    clear HT HU HB
    obtain ⟨j, rfl, HK, HT, HU, HB⟩ := hrel
    have t2 := (blk_cell HT.out 2).trans rfl
    have u2 := (blk_cell HU.out 2).trans rfl
    by_cases hlt : j < z.f2.length
    · obtain ⟨x, hx⟩ : ∃ x, z.f2[j]? = some x := ⟨_, List.getElem?_eq_getElem hlt⟩
      obtain ⟨ax, X5, e5, hAx, x0, x1, x2, x3, x4, x5, lx, gx⟩ := at_T83 HFA.out (j : Int) (by omega) (by omega)
      obtain ⟨ay, Y5, f5, hAy, y0, y1, y2, y3, y4, y5, ly, gy⟩ := at_T83 HFB.out (j : Int) (by omega) (by omega)
      rw [show rd_T83 z.f2 (j : Int) = x from by unfold rd_T83; rw [Int.toNat_natCast, List.getD_eq_getElem?_getD, hx]; rfl] at x0 x1 x2 x3 x4 x5 lx gx y0 y1 y2 y3 y4 y5 ly gy
      rw [Int.toNat_natCast] at x0 x1 x2 x3 x4 x5 y0 y1 y2 y3 y4 y5
      rw [hAx] at t2
      rw [hAy] at u2
      have HX0 := Lib.hid x0
      have HY0 := Lib.hid y0
      have HAX := Lib.hid hAx
      have HAY := Lib.hid hAy
      replace x1 := cell_later HB.out x1
      replace x2 := cell_later HB.out x2
      replace x3 := cell_later HB.out x3
      replace x4 := cell_later HB.out x4
      replace x5 := cell_later HB.out x5
      replace y1 := cell_later HB.out y1
      replace y2 := cell_later HB.out y2
      replace y3 := cell_later HB.out y3
      replace y4 := cell_later HB.out y4
      replace y5 := cell_later HB.out y5
      have HI := Lib.hid (equal_self (tyAll x.f1) X5 Y5 e5 f5 wr.drew (Kd.C_below gx (bel_drew HB.out)) lx (Kd.C_below gy (bel_drew HB.out)) ly)
      have i0 : 0 ≤ (j : Int) := by omega
      have i1 : (j : Int) < z.f2.length := by omega
      have HLT := Lib.hid hlt
      clear hx lx gx ly gy hAx hAy x0 y0
      go_wp2_with (fail)
      go_still_tail 12, (by kernel_rfl)
      change wpList _ _ _ _ _ wr.drew
      go_wp2_with (fail)
      refine HI.out.mono ?_
      rintro e w8 ⟨rfl, hb8⟩
      have HB2 := Lib.hid (bel_trans (bel_drew HB.out) hb8)
      have HT2 := Lib.hid (blk_later hb8 HT.out)
      have HU2 := Lib.hid (blk_later hb8 HU.out)
      clear hb8 t2 u2 x1 x2 x3 x4 x5 y1 y2 y3 y4 y5
      have t2 := (blk_cell HT2.out 2).trans rfl
      have u2 := (blk_cell HU2.out 2).trans rfl
      rw [HAX.out] at t2
      rw [HAY.out] at u2
      have x0 := cell_later HB2.out HX0.out
      have y0 := cell_later HB2.out HY0.out
      go_wp2_with (fail)
      go_quiet (fail)
      go_wp2_with (fail)
      go_roundw
      case rel => exact ⟨j + 1, by go_num, Lib.hid HLT.out, Lib.hid (blk_later (bel_drewN (Below.refl _ _) _) HT2.out), Lib.hid (blk_later (bel_drewN (Below.refl _ _) _) HU2.out), Lib.hid (bel_drewN HB2.out _)⟩
      case measure => have := HLT.out; simp [intOf]; omega
    · obtain rfl : j = z.f2.length := by have := HK.out; omega
      go_wp2_with (fail)
      go_ret
      exact ⟨rfl, HB.out⟩
end Go.Proofs.Ytbhagjhhgmmcgaa
