/- What has a part that could not be made out: bad, bads. -/
import Derived.Test.YtbhagjhhgmmcgaaTyHA
import Derived.Test.YtbhagjhhgmmcgaaTyT
namespace Go.Proofs.Ytbhagjhhgmmcgaa
open Go.RowKit PRef Go.Proofs.YtbhagjhhgmmcgaaW.PrintWords
set_option linter.unusedVariables false
set_option linter.unusedSimpArgs false

mutual
def badT : Ty → Bool
  | ⟨k, _, _, _, l⟩ => decide (k = 0) || badL l
def badL : List Ty → Bool
  | [] => false
  | a :: r => badT a || badL r
end
theorem badL_any : ∀ l : List Ty, badL l = l.any badT
  | [] => rfl
  | a :: r => by rw [badL, List.any_cons, badL_any r]
def badM (m : Mth) : Bool := badT m.f2 || m.f1.any badT
theorem any_drop {α : Type} (g : α → Bool) (l : List α) (k : Nat) (x : α) (hx : l[k]? = some x) : (l.drop k).any g = (g x || (l.drop (k + 1)).any g) := by
  obtain ⟨h1, rfl⟩ := List.getElem?_eq_some_iff.1 hx
  rw [List.drop_eq_getElem_cons h1, List.any_cons]

set_option maxRecDepth 100000 in
set_option maxHeartbeats 4000000 in
theorem bad_any {a : Ty} (ha : TyAll a) : ∀ (A : Option Addr) (c : Nat) (w : World), Kd.C kTy w A a.f4.length a.f4 → a.f4.length ≤ c →
    Calls Try.prog 62 #[.agg #[.int .i64 a.f0, .string a.f1, .string a.f2, .int .i64 a.f3, .slice A a.f4.length c]] w fun e w' => e = .returned (.bool (badT a)) ∧ Below w.heap.size w w' := by
  induction ha with
  | mk t hs ih =>
    intro A c w hA hc
    obtain ⟨k, p, q, m, l⟩ := t
    dsimp only at hs ih hA hc ⊢
    have hlm : l.length ≤ 9223372036854775807 := hA.2.1
    have HB := Lib.hid (bel_alloc (Below.refl w.heap.size w) (.cells #[.int .i64 k, .string p, .string q, .int .i64 m, .slice A l.length c] 29))
    have HT := Lib.hid (blk_new w (.cells #[.int .i64 k, .string p, .string q, .int .i64 m, .slice A l.length c] 29))
    have HA := Lib.hid hA
    have IH := Lib.hid ih
    clear hA ih hs
    rw [badT]
    by_cases h0 : k = 0
    · subst h0
      rw [show (decide ((0 : Int) = 0) || badL l) = true by simp]
      go_enter Try.func62, Try.ntmps62
      go_wp2_with (fail)
      go_ret
      exact ⟨rfl, HB.out⟩
    have c0 : (k == 0) = false := beq_eq_false_iff_ne.2 h0
    rw [decide_eq_false h0, Bool.false_or, badL_any]
    clear h0
    go_enter Try.func62, Try.ntmps62
    go_wp2_with (fail)
    go_loopw [3] (fun vi wr => ∃ j : Nat, vi = .int .i64 j ∧ Hid (j ≤ l.length ∧ l.any badT = (l.drop j).any badT) ∧ Hid (wr.heap[w.heap.size]? = some (.cells #[.int .i64 k, .string p, .string q, .int .i64 m, .slice A l.length c] 29 (0, 0))) ∧ Hid (Below w.heap.size w wr)) (fun vi _ => l.length - (intOf vi).toNat)
    case atStart => exact ⟨0, rfl, Lib.hid ⟨Nat.zero_le _, rfl⟩, HT, HB⟩
    case round =>
      clear HT HB
      obtain ⟨j, rfl, HK, HT, HB⟩ := hrel
      have tt := (blk_cell HT.out 4).trans rfl
      by_cases hlt : j < l.length
      · obtain ⟨y, hy⟩ : ∃ y, l[j]? = some y := ⟨_, List.getElem?_eq_getElem hlt⟩
        obtain ⟨ax, X4, e4, hAx, x0, x1, x2, x3, x4, lx, gx⟩ := at_T29 HA.out (j : Int) (by omega) (by omega)
        rw [show rd_T29 l (j : Int) = y from by unfold rd_T29; rw [Int.toNat_natCast, List.getD_eq_getElem?_getD, hy]; rfl] at x0 x1 x2 x3 x4 lx gx
        rw [Int.toNat_natCast] at x0 x1 x2 x3 x4
        subst hAx
        replace x0 := cell_later HB.out x0
        replace x1 := cell_later HB.out x1
        replace x2 := cell_later HB.out x2
        replace x3 := cell_later HB.out x3
        replace x4 := cell_later HB.out x4
        have HI := Lib.hid (IH.out y (List.mem_of_getElem? hy) X4 e4 wr (Kd.C_below gx HB.out) lx)
        have HD := Lib.hid (HK.out.2.trans (any_drop badT l j y hy))
        have i0 : 0 ≤ (j : Int) := by omega
        have i1 : (j : Int) < l.length := by omega
        have HLT := Lib.hid hlt
        clear hy lx gx
        generalize badT y = by' at *
        go_wp2_with (fail)
        refine HI.out.mono ?_
        rintro e w8 ⟨rfl, hb8⟩
        have hB2 := Lib.hid (bel_trans HB.out hb8)
        have hT2 := Lib.hid (blk_later hb8 HT.out)
        clear hb8
        cases by' with
        | true =>
          go_wp2_with (fail)
          go_ret
          exact ⟨by rw [HD.out]; rfl, hB2.out⟩
        | false =>
          go_wp2_with (fail)
          go_roundw
          case rel => exact ⟨j + 1, by go_num, Lib.hid ⟨HLT.out, HD.out⟩, hT2, hB2⟩
          case measure => have := HLT.out; simp [intOf]; omega
      · obtain rfl : j = l.length := by have := HK.out.1; omega
        have HE := Lib.hid (show l.any badT = false from by have := HK.out.2; rw [List.drop_length] at this; exact this)
        go_wp2_with (fail)
        go_ret
        exact ⟨by rw [HE.out]; rfl, HB.out⟩

set_option maxRecDepth 100000 in
set_option maxHeartbeats 4000000 in
theorem bads_any (l : List Mth) (A : Option Addr) (c : Nat) (w : World) (hA : Kd.C kMth w A l.length l) (hc : l.length ≤ c) :
    Calls Try.prog 33 #[.slice A l.length c] w fun e w' => e = .returned (.bool (l.any badM)) ∧ Below w.heap.size w w' := by
  have hlm : l.length ≤ 9223372036854775807 := hA.2.1
  have HA := Lib.hid hA
  have HB := Lib.hid (Below.refl w.heap.size w)
  clear hA
  go_enter Try.func33, Try.ntmps33
  go_wp2_with (fail)
  go_loopw [3] (fun vi wr => ∃ j : Nat, vi = .int .i64 j ∧ Hid (j ≤ l.length ∧ l.any badM = (l.drop j).any badM) ∧ Hid (Below w.heap.size w wr)) (fun vi _ => l.length - (intOf vi).toNat)
  case atStart => exact ⟨0, rfl, Lib.hid ⟨Nat.zero_le _, rfl⟩, HB⟩
  case round =>
    clear HB
    obtain ⟨j, rfl, HK, HB⟩ := hrel
    by_cases hlt : j < l.length
    · obtain ⟨z, hz⟩ : ∃ z, l[j]? = some z := ⟨_, List.getElem?_eq_getElem hlt⟩
      obtain ⟨az, B1, g1, B6, g6, hAz, z0, z1, z2, z3, z4, z5, z6, _, gz1, lz6, gz6⟩ := at_T50 HA.out (j : Int) (by omega) (by omega)
      rw [show rd_T50 l (j : Int) = z from by unfold rd_T50; rw [Int.toNat_natCast, List.getD_eq_getElem?_getD, hz]; rfl] at z0 z1 z2 z3 z4 z5 z6 gz1 lz6 gz6
      rw [Int.toNat_natCast] at z0 z1 z2 z3 z4 z5 z6
      have hzm : z.f1.length ≤ 9223372036854775807 := gz1.2.1
      have HZC := Lib.hid gz1
      have HZ1 := Lib.hid z1
      have HI := Lib.hid (bad_any (tyAll z.f2) B6 g6 wr (Kd.C_below gz6 HB.out) lz6)
      subst hAz
      have HD := Lib.hid (HK.out.2.trans (any_drop badM l j z hz))
      have HBM := Lib.hid (show badM z = (badT z.f2 || z.f1.any badT) from rfl)
      generalize badM z = bm at *
      generalize badT z.f2 = b2 at *
      have k0 : 0 ≤ (j : Int) := by omega
      have k1 : (j : Int) < l.length := by omega
      have HLT := Lib.hid hlt
      replace z0 := cell_later HB.out z0
      replace z1 := cell_later HB.out z1
      replace z2 := cell_later HB.out z2
      replace z3 := cell_later HB.out z3
      replace z4 := cell_later HB.out z4
      replace z5 := cell_later HB.out z5
      replace z6 := cell_later HB.out z6
      clear hz gz1 gz6 lz6
      go_wp2_with (fail)
      refine HI.out.mono ?_
      rintro e w6 ⟨rfl, hb⟩
      have HB6 := Lib.hid (bel_trans HB.out hb)
      clear hb HI HB z0 z1 z2 z3 z4 z5 z6
      go_wp2_with (fail)
      go_loopw [4, 5] (fun v4 v5 wr => ∃ (b : Bool) (q : Nat), v4 = .bool b ∧ v5 = .int .i64 q ∧ Hid (q ≤ z.f1.length ∧ bm = (b || (z.f1.drop q).any badT)) ∧ Hid (Below w.heap.size w wr)) (fun _ v5 _ => z.f1.length - (intOf v5).toNat)
      case atStart => exact ⟨_, 0, rfl, rfl, Lib.hid ⟨Nat.zero_le _, HBM.out⟩, HB6⟩
      case round =>
        clear HB6 HBM
        obtain ⟨b, q, rfl, rfl, HK4, HB⟩ := hrel
        have z1' := cell_later HB.out HZ1.out
        cases b with
        | true =>
          have HE := Lib.hid (show l.any badM = true from by have h1 := HD.out; have h2 := HK4.out.2; rw [h2] at h1; simpa using h1)
          cases decide ((q : Int) < (z.f1.length : Int))
          all_goals
            by_cases hlt4 : q < z.f1.length
            all_goals
              go_wp2_with (fail)
              go_ret
              exact ⟨by rw [HE.out]; rfl, HB.out⟩
        | false =>
          by_cases hlt4 : q < z.f1.length
          · obtain ⟨u, hu⟩ : ∃ u, z.f1[q]? = some u := ⟨_, List.getElem?_eq_getElem hlt4⟩
            obtain ⟨au, U4, f4, hAu, u0, u1, u2, u3, u4, lu, gu⟩ := at_T29 HZC.out (q : Int) (by omega) (by omega)
            rw [show rd_T29 z.f1 (q : Int) = u from by unfold rd_T29; rw [Int.toNat_natCast, List.getD_eq_getElem?_getD, hu]; rfl] at u0 u1 u2 u3 u4 lu gu
            rw [Int.toNat_natCast] at u0 u1 u2 u3 u4
            rw [hAu] at z1'
            replace u0 := cell_later HB.out u0
            replace u1 := cell_later HB.out u1
            replace u2 := cell_later HB.out u2
            replace u3 := cell_later HB.out u3
            replace u4 := cell_later HB.out u4
            have HPU := Lib.hid (bad_any (tyAll u) U4 f4 wr (Kd.C_below gu HB.out) lu)
            have HD4 := Lib.hid (show bm = (badT u || (z.f1.drop (q + 1)).any badT) from by have h2 := HK4.out.2; rw [any_drop badT z.f1 q u hu] at h2; simpa using h2)
            generalize badT u = bu at *
            have m0 : 0 ≤ (q : Int) := by omega
            have m1 : (q : Int) < z.f1.length := by omega
            have HLT4 := Lib.hid hlt4
            clear hu gu lu hAu
            go_wp2_with (fail)
            refine HPU.out.mono ?_
            rintro e w7 ⟨rfl, hb⟩
            have HB7 := Lib.hid (bel_trans HB.out hb)
            clear hb HPU
            go_wp2_with (fail)
            go_roundw
            case rel => exact ⟨_, q + 1, rfl, by go_num, Lib.hid ⟨HLT4.out, HD4.out⟩, HB7⟩
            case measure => have := HLT4.out; simp [intOf]; omega
          · obtain rfl : q = z.f1.length := by have := HK4.out.1; omega
            have HE := Lib.hid (show l.any badM = (l.drop (j + 1)).any badM from by have h1 := HD.out; have h2 := HK4.out.2; rw [List.drop_length] at h2; rw [h2] at h1; simpa using h1)
            go_wp2_with (fail)
            go_roundw
            case rel => exact ⟨j + 1, by go_num, Lib.hid ⟨HLT.out, HE.out⟩, HB⟩
            case measure => have := HLT.out; simp [intOf]; omega
    · obtain rfl : j = l.length := by have := HK.out.1; omega
      have HE := Lib.hid (show l.any badM = false from by have := HK.out.2; rw [List.drop_length] at this; exact this)
      go_wp2_with (fail)
      go_ret
      exact ⟨by rw [HE.out]; rfl, HB.out⟩
end Go.Proofs.Ytbhagjhhgmmcgaa
