/- sets.Meets, Assign. -/
import Derived.Test.YtbhagjhhgmmcgaaTyM
namespace Go.Proofs.Ytbhagjhhgmmcgaa
open Go.RowKit PRef Go.Proofs.YtbhagjhhgmmcgaaW.PrintWords
set_option linter.unusedVariables false

/-- Is a method that is asked for there? -/
def wantP (l : List Mth) (x : Mth) : Bool := match l.find? fun m => decide (m.f0 = x.f0) with
  | none => false
  | some m => alikeL m.f1 x.f1 && alikeT m.f2 x.f2
def meetsP (W : List Ifc) (B : List Ty) (t i : Ty) : Bool := ifaceP W i && (methodsP W B i).all (wantP (methodsP W B t))
def assignP (W : List Ifc) (B : List Ty) (f t : Ty) : Bool := if f.f0 = 7 then false else if t.f0 = 7 then false else alikeT f t || meetsP W B f t
theorem all_drop {α : Type} (g : α → Bool) (l : List α) (k : Nat) (x : α) (hx : l[k]? = some x) : (l.drop k).all g = (g x && (l.drop (k + 1)).all g) := by
  obtain ⟨h1, rfl⟩ := List.getElem?_eq_some_iff.1 hx
  rw [List.drop_eq_getElem_cons h1, List.all_cons]

set_option maxRecDepth 100000 in
set_option maxHeartbeats 8000000 in
theorem meets_any (a : ScA) (W : List Ifc) (B : List Ty) (t i : Ty) (A C : Option Addr) (c d : Nat) (w : World) (hW : ScC a W B w) (ok : WOk W) (hA : Kd.C kTy w A t.f4.length t.f4) (hc : t.f4.length ≤ c) (hC : Kd.C kTy w C i.f4.length i.f4) (hd : i.f4.length ≤ d) :
    Calls Try.prog 29 #[scV a W B, tyV t A c, tyV i C d] w fun e w' => e = .returned (.bool (meetsP W B t i)) ∧ Below w.heap.size w w' := by
  have hb0 := bel_alloc (bel_alloc (bel_alloc (Below.refl w.heap.size w) (.cells #[.slice a.AW W.length a.cW, .slice a.AI a.nI a.cI, .slice a.AN a.nN a.cN, .slice a.AB B.length a.cB, .slice a.AV a.nV a.cV] 27)) (.cells #[.int .i64 t.f0, .string t.f1, .string t.f2, .int .i64 t.f3, .slice A t.f4.length c] 29)) (.cells #[.int .i64 i.f0, .string i.f1, .string i.f2, .int .i64 i.f3, .slice C i.f4.length d] 29)
  have HB := Lib.hid hb0
  have HI := Lib.hid (iface_any a W B i C d _ (hW.later hb0) ok)
  have HM := Lib.hid (fun W' (hb : Below w.heap.size w W') => methods_any a W B t A c W' (hW.later hb) ok (Kd.C_below hA hb) hc)
  have HN := Lib.hid (fun W' (hb : Below w.heap.size w W') => methods_any a W B i C d W' (hW.later hb) ok (Kd.C_below hC hb) hd)
  have HS := Lib.hid (blk_alloc (blk_alloc (blk_new w (.cells #[.slice a.AW W.length a.cW, .slice a.AI a.nI a.cI, .slice a.AN a.nN a.cN, .slice a.AB B.length a.cB, .slice a.AV a.nV a.cV] 27)) (.cells #[.int .i64 t.f0, .string t.f1, .string t.f2, .int .i64 t.f3, .slice A t.f4.length c] 29)) (.cells #[.int .i64 i.f0, .string i.f1, .string i.f2, .int .i64 i.f3, .slice C i.f4.length d] 29))
  have HT := Lib.hid (blk_alloc (show ((w.alloc (.cells #[.slice a.AW W.length a.cW, .slice a.AI a.nI a.cI, .slice a.AN a.nN a.cN, .slice a.AB B.length a.cB, .slice a.AV a.nV a.cV] 27)).alloc (.cells #[.int .i64 t.f0, .string t.f1, .string t.f2, .int .i64 t.f3, .slice A t.f4.length c] 29)).heap[w.heap.size + 1]? = some (.cells #[.int .i64 t.f0, .string t.f1, .string t.f2, .int .i64 t.f3, .slice A t.f4.length c] 29 (0, 0)) by simpa using blk_new (w.alloc (.cells #[.slice a.AW W.length a.cW, .slice a.AI a.nI a.cI, .slice a.AN a.nN a.cN, .slice a.AB B.length a.cB, .slice a.AV a.nV a.cV] 27)) (.cells #[.int .i64 t.f0, .string t.f1, .string t.f2, .int .i64 t.f3, .slice A t.f4.length c] 29)) (.cells #[.int .i64 i.f0, .string i.f1, .string i.f2, .int .i64 i.f3, .slice C i.f4.length d] 29))
  have HX := Lib.hid (show (((w.alloc (.cells #[.slice a.AW W.length a.cW, .slice a.AI a.nI a.cI, .slice a.AN a.nN a.cN, .slice a.AB B.length a.cB, .slice a.AV a.nV a.cV] 27)).alloc (.cells #[.int .i64 t.f0, .string t.f1, .string t.f2, .int .i64 t.f3, .slice A t.f4.length c] 29)).alloc (.cells #[.int .i64 i.f0, .string i.f1, .string i.f2, .int .i64 i.f3, .slice C i.f4.length d] 29)).heap[w.heap.size + 1 + 1]? = some (.cells #[.int .i64 i.f0, .string i.f1, .string i.f2, .int .i64 i.f3, .slice C i.f4.length d] 29 (0, 0)) by have h := blk_new ((w.alloc (.cells #[.slice a.AW W.length a.cW, .slice a.AI a.nI a.cI, .slice a.AN a.nN a.cN, .slice a.AB B.length a.cB, .slice a.AV a.nV a.cV] 27)).alloc (.cells #[.int .i64 t.f0, .string t.f1, .string t.f2, .int .i64 t.f3, .slice A t.f4.length c] 29)) (.cells #[.int .i64 i.f0, .string i.f1, .string i.f2, .int .i64 i.f3, .slice C i.f4.length d] 29); simp only [World.size_alloc] at h; exact h)
  unfold meetsP
  generalize ifaceP W i = ib at *
  generalize methodsP W B t = L at *
  generalize methodsP W B i = M at *
  clear hW ok hA hC hb0 hc hd
  simp only [scV, tyV] at *
  cases ib with
  | false =>
    rw [Bool.false_and]
    go_enter Try.func29, Try.ntmps29
    go_wp2_with (fail)
    refine HI.out.mono ?_
    rintro e w1 ⟨rfl, hb⟩
    replace HB := Lib.hid (bel_trans HB.out hb)
    clear hb
    go_wp2_with (fail)
    go_ret
    exact ⟨rfl, HB.out⟩
  | true =>
    rw [Bool.true_and]
    go_enter Try.func29, Try.ntmps29
    go_wp2_with (fail)
    refine HI.out.mono ?_
    rintro e w1 ⟨rfl, hb⟩
    replace HB := Lib.hid (bel_trans HB.out hb)
    replace HS := Lib.hid (blk_later hb HS.out)
    replace HT := Lib.hid (blk_later hb HT.out)
    replace HX := Lib.hid (blk_later hb HX.out)
    clear hb
    have s0 := (blk_cell HS.out 0).trans rfl
    have s1 := (blk_cell HS.out 1).trans rfl
    have s2 := (blk_cell HS.out 2).trans rfl
    have s3 := (blk_cell HS.out 3).trans rfl
    have s4 := (blk_cell HS.out 4).trans rfl
    have t0 := (blk_cell HT.out 0).trans rfl
    have t1 := (blk_cell HT.out 1).trans rfl
    have t2 := (blk_cell HT.out 2).trans rfl
    have t3 := (blk_cell HT.out 3).trans rfl
    have t4 := (blk_cell HT.out 4).trans rfl
    go_wp2_with (fail)
    refine (HM.out _ HB.out).mono ?_
    rintro e w2 ⟨A1, c1, rfl, hl1, hC1, hb⟩
    replace HB := Lib.hid (bel_trans HB.out hb)
    replace HS := Lib.hid (blk_later hb HS.out)
    replace HX := Lib.hid (blk_later hb HX.out)
    have HL1 := Lib.hid hl1
    have HC1 := Lib.hid hC1
    clear hb hl1 hC1 s0 s1 s2 s3 s4 t0 t1 t2 t3 t4
    have s0 := (blk_cell HS.out 0).trans rfl
    have s1 := (blk_cell HS.out 1).trans rfl
    have s2 := (blk_cell HS.out 2).trans rfl
    have s3 := (blk_cell HS.out 3).trans rfl
    have s4 := (blk_cell HS.out 4).trans rfl
    have t0 := (blk_cell HX.out 0).trans rfl
    have t1 := (blk_cell HX.out 1).trans rfl
    have t2 := (blk_cell HX.out 2).trans rfl
    have t3 := (blk_cell HX.out 3).trans rfl
    have t4 := (blk_cell HX.out 4).trans rfl
    go_wp2_with (fail)
    refine (HN.out _ HB.out).mono ?_
    rintro e w3 ⟨A2, c2, rfl, hl2, hC2, hb⟩
    replace HB := Lib.hid (bel_trans HB.out hb)
    replace HC1 := Lib.hid (Kd.C_below HC1.out hb)
    have HL2 := Lib.hid hl2
    have HC2 := Lib.hid hC2
    have hM9 : M.length ≤ 9223372036854775807 := hC2.2.1
    have HWW := Lib.hid (Below.refl w3.heap.size w3)
    clear hb hl2 hC2 s0 s1 s2 s3 s4 t0 t1 t2 t3 t4
    go_wp2_with (fail)
    go_loopg [23] (M.length + 1) (fun kq v23 W' => ∃ k : Nat, v23 = .int .i64 k ∧ Hid (kq + k = M.length + 1 ∧ k ≤ M.length ∧ M.all (wantP L) = (M.drop k).all (wantP L)) ∧ Hid (Below w3.heap.size w3 W'))
    case atStart => exact ⟨0, rfl, Lib.hid ⟨rfl, Nat.zero_le _, rfl⟩, HWW⟩
    case round =>
      clear HWW
      obtain ⟨k, rfl, HK, HWW⟩ := hrel
      replace HB := Lib.hid (bel_trans HB.out HWW.out)
      by_cases hlt : k < M.length
      · obtain ⟨x, hx⟩ : ∃ x, M[k]? = some x := ⟨_, List.getElem?_eq_getElem hlt⟩
        obtain ⟨ad, A1', c1', A6, c6, hA1, x0, x1, x2, x3, x4, x5, x6, l1, g1, l6, g6⟩ := at_T50 (Kd.C_below HC2.out HWW.out) (k : Int) (by omega) (by omega)
        subst hA1
        rw [show rd_T50 M (k : Int) = x from by unfold rd_T50; rw [Int.toNat_natCast, List.getD_eq_getElem?_getD, hx]; rfl] at x0 x1 x2 x3 x4 x5 x6 l1 g1 l6 g6
        rw [Int.toNat_natCast] at x0 x1 x2 x3 x4 x5 x6
        have HD := Lib.hid (HK.out.2.2.trans (all_drop (wantP L) M k x hx))
        have i0 : 0 ≤ (k : Int) := by omega
        have i1 : (k : Int) < M.length := by omega
        have HLT := Lib.hid hlt
        have hbx := bel_alloc (Below.refl wr.heap.size wr) (.cells #[.string x.f0, .slice A1' x.f1.length c1', .int .i64 x.f2.f0, .string x.f2.f1, .string x.f2.f2, .int .i64 x.f2.f3, .slice A6 x.f2.f4.length c6] 50)
        have HBX := Lib.hid hbx
        have HXB := Lib.hid (blk_new wr (.cells #[.string x.f0, .slice A1' x.f1.length c1', .int .i64 x.f2.f0, .string x.f2.f1, .string x.f2.f2, .int .i64 x.f2.f3, .slice A6 x.f2.f4.length c6] 50))
        have HG1 := Lib.hid (Kd.C_below g1 hbx)
        have HG6 := Lib.hid (Kd.C_below g6 hbx)
        have HLL := Lib.hid (And.intro l1 l6)
        have HLC := Lib.hid (Kd.C_below (Kd.C_below HC1.out HWW.out) hbx)
        clear hx g1 g6 l1 l6 hbx
        cases h1 : L.find? (fun m => decide (m.f0 = x.f0)) with
        | none =>
          have HF := Lib.hid (firstMth_none (fun m => decide (m.f0 = x.f0)) L A1 c1 ⟨wr.heap.size, 0, none⟩ _ HLC.out HL1.out (fun m hm B1 d1 B6 d6 W' hb => meets1_any (blk_later hb HXB.out) m.f0 B1 m.f1.length d1 m.f2.f0 m.f2.f1 m.f2.f2 m.f2.f3 B6 m.f2.f4.length d6) h1)
          have HE := Lib.hid (show M.all (wantP L) = false from by have := HD.out; rw [show wantP L x = false from by unfold wantP; rw [h1], Bool.false_and] at this; exact this)
          clear h1
          go_wp2_with (fail)
          refine HF.out.mono ?_
          rintro e w4 ⟨rfl, hb⟩
          have HB2 := Lib.hid (bel_alloc (bel_trans HB.out (bel_trans HBX.out hb)) (.cells #[.string ⟨#[]⟩, .slice none 0 0, .int .i64 0, .string ⟨#[]⟩, .string ⟨#[]⟩, .int .i64 0, .slice none 0 0] 50))
          clear hb
          go_wp2_with (fail)
          go_ret
          exact ⟨by rw [HE.out]; rfl, HB2.out⟩
        | some m =>
          have HF := Lib.hid (firstMth_some (fun m => decide (m.f0 = x.f0)) L A1 c1 ⟨wr.heap.size, 0, none⟩ _ HLC.out HL1.out (fun m hm B1 d1 B6 d6 W' hb => meets1_any (blk_later hb HXB.out) m.f0 B1 m.f1.length d1 m.f2.f0 m.f2.f1 m.f2.f2 m.f2.f3 B6 m.f2.f4.length d6) m h1)
          have HW := Lib.hid (show wantP L x = (alikeL m.f1 x.f1 && alikeT m.f2 x.f2) from by unfold wantP; rw [h1])
          clear h1
          go_wp2_with (fail)
          refine HF.out.mono ?_
          rintro e w4 ⟨B1, d1, B6, d6, rfl, k1, k2, k3, k4, hb⟩
          have hbm := bel_alloc hb (.cells #[.string m.f0, .slice B1 m.f1.length d1, .int .i64 m.f2.f0, .string m.f2.f1, .string m.f2.f2, .int .i64 m.f2.f3, .slice B6 m.f2.f4.length d6] 50)
          have HBM := Lib.hid (bel_trans HBX.out hbm)
          have HMB := Lib.hid (blk_new w4 (.cells #[.string m.f0, .slice B1 m.f1.length d1, .int .i64 m.f2.f0, .string m.f2.f1, .string m.f2.f2, .int .i64 m.f2.f3, .slice B6 m.f2.f4.length d6] 50))
          have HXB2 := Lib.hid (blk_later hbm HXB.out)
          have HEQ := Lib.hid (equalAlike_any alikeT B1 A1' d1 c1' m.f1 x.f1 (w4.alloc (.cells #[.string m.f0, .slice B1 m.f1.length d1, .int .i64 m.f2.f0, .string m.f2.f1, .string m.f2.f2, .int .i64 m.f2.f3, .slice B6 m.f2.f4.length d6] 50)) (Kd.C_below k2 (bel_alloc (Below.refl _ _) _)) (Kd.C_below HG1.out hbm) k1 HLL.out.1 (fun y hy z hz A' B' c' d' W' h1 h2 h3 h4 => alike_any (tyAll y) z A' B' c' d' W' h1 h2 h3 h4))
          rw [← alikeL_all] at HEQ
          have HAL := Lib.hid (fun W' (hb' : Below (w4.alloc (.cells #[.string m.f0, .slice B1 m.f1.length d1, .int .i64 m.f2.f0, .string m.f2.f1, .string m.f2.f2, .int .i64 m.f2.f3, .slice B6 m.f2.f4.length d6] 50)).heap.size (w4.alloc (.cells #[.string m.f0, .slice B1 m.f1.length d1, .int .i64 m.f2.f0, .string m.f2.f1, .string m.f2.f2, .int .i64 m.f2.f3, .slice B6 m.f2.f4.length d6] 50)) W') => alike_any (tyAll m.f2) x.f2 B6 A6 d6 c6 W' (Kd.C_below (Kd.C_below k4 (bel_alloc (Below.refl _ _) _)) hb') k3 (Kd.C_below (Kd.C_below HG6.out hbm) hb') HLL.out.2)
          simp only [tyV] at HAL
          have p1 := (blk_cell HMB.out 1).trans rfl
          have r1 := (blk_cell HXB2.out 1).trans rfl
          clear hb hbm k1 k2 k3 k4
          cases hq : alikeL m.f1 x.f1 with
          | false =>
            have HE := Lib.hid (show M.all (wantP L) = false from by have := HD.out; rw [HW.out, hq, Bool.false_and, Bool.false_and] at this; exact this)
            rw [hq] at HEQ
            clear hq
            go_wp2_with (fail)
            refine HEQ.out.mono ?_
            rintro e w5 ⟨rfl, hb⟩
            have HB2 := Lib.hid (bel_trans HB.out (bel_trans HBM.out hb))
            clear hb
            go_wp2_with (fail)
            go_ret
            exact ⟨by rw [HE.out]; rfl, HB2.out⟩
          | true =>
            rw [hq] at HEQ
            have HW2 := Lib.hid (show wantP L x = alikeT m.f2 x.f2 from by rw [HW.out, hq, Bool.true_and])
            clear hq
            go_wp2_with (fail)
            refine HEQ.out.mono ?_
            rintro e w5 ⟨rfl, hb⟩
            have hmb := blk_later hb HMB.out
            have hxb := blk_later hb HXB2.out
            have m2 := (blk_cell hmb 2).trans rfl
            have m3 := (blk_cell hmb 3).trans rfl
            have m4 := (blk_cell hmb 4).trans rfl
            have m5 := (blk_cell hmb 5).trans rfl
            have m6 := (blk_cell hmb 6).trans rfl
            have z2 := (blk_cell hxb 2).trans rfl
            have z3 := (blk_cell hxb 3).trans rfl
            have z4 := (blk_cell hxb 4).trans rfl
            have z5 := (blk_cell hxb 5).trans rfl
            have z6 := (blk_cell hxb 6).trans rfl
            have HAC := Lib.hid (HAL.out _ hb)
            replace HBM := Lib.hid (bel_trans HBM.out hb)
            clear hb hmb hxb
            cases hq : alikeT m.f2 x.f2 with
            | false =>
              have HE := Lib.hid (show M.all (wantP L) = false from by have := HD.out; rw [HW2.out, hq, Bool.false_and] at this; exact this)
              rw [hq] at HAC
              clear hq
              go_wp2_with (fail)
              refine HAC.out.mono ?_
              rintro e w6 ⟨rfl, hb⟩
              have HB2 := Lib.hid (bel_trans HB.out (bel_trans HBM.out hb))
              clear hb
              go_wp2_with (fail)
              go_ret
              exact ⟨by rw [HE.out]; rfl, HB2.out⟩
            | true =>
              have HE := Lib.hid (show M.all (wantP L) = (M.drop (k + 1)).all (wantP L) from by have := HD.out; rw [HW2.out, hq, Bool.true_and] at this; exact this)
              rw [hq] at HAC
              clear hq
              go_wp2_with (fail)
              refine HAC.out.mono ?_
              rintro e w6 ⟨rfl, hb⟩
              have HB2 := Lib.hid (bel_trans HWW.out (bel_trans HBM.out hb))
              clear hb
              go_wp2_with (fail)
              go_roundg (gk - 1)
              case measure => have := HK.out.1; have := HK.out.2.1; omega
              case rel => exact ⟨k + 1, by go_num, Lib.hid ⟨by have := HK.out.1; have := HLT.out; omega, HLT.out, HE.out⟩, HB2⟩
      · obtain rfl : k = M.length := by have := HK.out.2.1; omega
        have HE := Lib.hid (show M.all (wantP L) = true from by have := HK.out.2.2; rw [List.drop_length] at this; exact this)
        go_wp2_with (fail)
        go_ret
        exact ⟨by rw [HE.out]; rfl, HB.out⟩
set_option maxRecDepth 100000 in
set_option maxHeartbeats 4000000 in
theorem assign_any (a : ScA) (W : List Ifc) (B : List Ty) (t i : Ty) (A C : Option Addr) (c d : Nat) (w : World) (hW : ScC a W B w) (ok : WOk W) (hA : Kd.C kTy w A t.f4.length t.f4) (hc : t.f4.length ≤ c) (hC : Kd.C kTy w C i.f4.length i.f4) (hd : i.f4.length ≤ d) :
    Calls Try.prog 31 #[scV a W B, tyV t A c, tyV i C d] w fun e w' => e = .returned (.bool (assignP W B t i)) ∧ Below w.heap.size w w' := by
  have hb0 := bel_alloc (bel_alloc (bel_alloc (Below.refl w.heap.size w) (.cells #[.slice a.AW W.length a.cW, .slice a.AI a.nI a.cI, .slice a.AN a.nN a.cN, .slice a.AB B.length a.cB, .slice a.AV a.nV a.cV] 27)) (.cells #[.int .i64 t.f0, .string t.f1, .string t.f2, .int .i64 t.f3, .slice A t.f4.length c] 29)) (.cells #[.int .i64 i.f0, .string i.f1, .string i.f2, .int .i64 i.f3, .slice C i.f4.length d] 29)
  have HB := Lib.hid hb0
  have HAL := Lib.hid (alike_any (tyAll t) i A C c d _ (Kd.C_below hA hb0) hc (Kd.C_below hC hb0) hd)
  have HME := Lib.hid (fun W' (hb : Below w.heap.size w W') => meets_any a W B t i A C c d W' (hW.later hb) ok (Kd.C_below hA hb) hc (Kd.C_below hC hb) hd)
  have HS := Lib.hid (blk_alloc (blk_alloc (blk_new w (.cells #[.slice a.AW W.length a.cW, .slice a.AI a.nI a.cI, .slice a.AN a.nN a.cN, .slice a.AB B.length a.cB, .slice a.AV a.nV a.cV] 27)) (.cells #[.int .i64 t.f0, .string t.f1, .string t.f2, .int .i64 t.f3, .slice A t.f4.length c] 29)) (.cells #[.int .i64 i.f0, .string i.f1, .string i.f2, .int .i64 i.f3, .slice C i.f4.length d] 29))
  have HT := Lib.hid (blk_alloc (show ((w.alloc (.cells #[.slice a.AW W.length a.cW, .slice a.AI a.nI a.cI, .slice a.AN a.nN a.cN, .slice a.AB B.length a.cB, .slice a.AV a.nV a.cV] 27)).alloc (.cells #[.int .i64 t.f0, .string t.f1, .string t.f2, .int .i64 t.f3, .slice A t.f4.length c] 29)).heap[w.heap.size + 1]? = some (.cells #[.int .i64 t.f0, .string t.f1, .string t.f2, .int .i64 t.f3, .slice A t.f4.length c] 29 (0, 0)) by simpa using blk_new (w.alloc (.cells #[.slice a.AW W.length a.cW, .slice a.AI a.nI a.cI, .slice a.AN a.nN a.cN, .slice a.AB B.length a.cB, .slice a.AV a.nV a.cV] 27)) (.cells #[.int .i64 t.f0, .string t.f1, .string t.f2, .int .i64 t.f3, .slice A t.f4.length c] 29)) (.cells #[.int .i64 i.f0, .string i.f1, .string i.f2, .int .i64 i.f3, .slice C i.f4.length d] 29))
  have HX := Lib.hid (show (((w.alloc (.cells #[.slice a.AW W.length a.cW, .slice a.AI a.nI a.cI, .slice a.AN a.nN a.cN, .slice a.AB B.length a.cB, .slice a.AV a.nV a.cV] 27)).alloc (.cells #[.int .i64 t.f0, .string t.f1, .string t.f2, .int .i64 t.f3, .slice A t.f4.length c] 29)).alloc (.cells #[.int .i64 i.f0, .string i.f1, .string i.f2, .int .i64 i.f3, .slice C i.f4.length d] 29)).heap[w.heap.size + 1 + 1]? = some (.cells #[.int .i64 i.f0, .string i.f1, .string i.f2, .int .i64 i.f3, .slice C i.f4.length d] 29 (0, 0)) by have h := blk_new ((w.alloc (.cells #[.slice a.AW W.length a.cW, .slice a.AI a.nI a.cI, .slice a.AN a.nN a.cN, .slice a.AB B.length a.cB, .slice a.AV a.nV a.cV] 27)).alloc (.cells #[.int .i64 t.f0, .string t.f1, .string t.f2, .int .i64 t.f3, .slice A t.f4.length c] 29)) (.cells #[.int .i64 i.f0, .string i.f1, .string i.f2, .int .i64 i.f3, .slice C i.f4.length d] 29); simp only [World.size_alloc] at h; exact h)
  unfold assignP
  generalize alikeT t i = ab at *
  generalize meetsP W B t i = mb at *
  clear hW ok hA hC hb0 hc hd
  simp only [scV, tyV] at *
  by_cases h7 : t.f0 = 7
  · have e7 : (t.f0 == 7) = true := by simp [h7]
    rw [if_pos h7]
    clear h7
    go_enter Try.func31, Try.ntmps31
    go_wp2_with (fail)
    go_ret
    exact ⟨rfl, HB.out⟩
  · have e7 : (t.f0 == 7) = false := beq_eq_false_iff_ne.2 h7
    rw [if_neg h7]
    by_cases h7' : i.f0 = 7
    · have e7' : (i.f0 == 7) = true := by simp [h7']
      rw [if_pos h7']
      clear h7 h7'
      go_enter Try.func31, Try.ntmps31
      go_wp2_with (fail)
      go_ret
      exact ⟨rfl, HB.out⟩
    · have e7' : (i.f0 == 7) = false := beq_eq_false_iff_ne.2 h7'
      rw [if_neg h7']
      clear h7 h7'
      cases ab with
      | true =>
        go_enter Try.func31, Try.ntmps31
        go_wp2_with (fail)
        refine HAL.out.mono ?_
        rintro e w1 ⟨rfl, hb⟩
        replace HB := Lib.hid (bel_trans HB.out hb)
        clear hb
        go_wp2_with (fail)
        go_ret
        exact ⟨rfl, HB.out⟩
      | false =>
        go_enter Try.func31, Try.ntmps31
        go_wp2_with (fail)
        refine HAL.out.mono ?_
        rintro e w1 ⟨rfl, hb⟩
        replace HB := Lib.hid (bel_trans HB.out hb)
        replace HS := Lib.hid (blk_later hb HS.out)
        replace HT := Lib.hid (blk_later hb HT.out)
        replace HX := Lib.hid (blk_later hb HX.out)
        clear hb
        have s0 := (blk_cell HS.out 0).trans rfl
        have s1 := (blk_cell HS.out 1).trans rfl
        have s2 := (blk_cell HS.out 2).trans rfl
        have s3 := (blk_cell HS.out 3).trans rfl
        have s4 := (blk_cell HS.out 4).trans rfl
        have t0 := (blk_cell HT.out 0).trans rfl
        have t1 := (blk_cell HT.out 1).trans rfl
        have t2 := (blk_cell HT.out 2).trans rfl
        have t3 := (blk_cell HT.out 3).trans rfl
        have t4 := (blk_cell HT.out 4).trans rfl
        have u0' := (blk_cell HX.out 0).trans rfl
        have u1' := (blk_cell HX.out 1).trans rfl
        have u2' := (blk_cell HX.out 2).trans rfl
        have u3' := (blk_cell HX.out 3).trans rfl
        have u4' := (blk_cell HX.out 4).trans rfl
        go_wp2_with (fail)
        refine (HME.out _ HB.out).mono ?_
        rintro e w2 ⟨rfl, hb⟩
        replace HB := Lib.hid (bel_trans HB.out hb)
        clear hb
        go_wp2_with (fail)
        go_ret
        exact ⟨by simp, HB.out⟩
end Go.Proofs.Ytbhagjhhgmmcgaa
