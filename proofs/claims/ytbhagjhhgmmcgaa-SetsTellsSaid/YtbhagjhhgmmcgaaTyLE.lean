/- SetsTells: what any type is, its fields and its methods, are what the document says. -/
import Derived.Test.YtbhagjhhgmmcgaaTyLA
import Derived.Test.YtbhagjhhgmmcgaaTyHD
import Derived.Deep.RegionHeld3
namespace Go.Proofs.Ytbhagjhhgmmcgaa
open Go.RowKit PRef Go.Proofs.YtbhagjhhgmmcgaaW.PrintWords
set_option linter.unusedVariables false
set_option linter.unusedSimpArgs false

set_option maxRecDepth 100000 in
set_option maxHeartbeats 8000000 in
theorem tells_any (s : Scp) (a : ScA) (t : Ty) (A : Option Addr) (c : Nat) (nm : ByteArray) (w : World) (ok : WOk s.W ∧ (∀ t ∈ s.B, TyOk t) ∧ s.W.length * 64 ≤ 140737488351232) (hS : ScpC a s w) (ht : TyOk t) (hc : t.f4.length ≤ c) (hA : Kd.C kTy w A t.f4.length t.f4) (hnm : nm.size ≤ 140737488351232) :
    Calls Try.prog 3 #[scV a s.W s.B, tyV t A c, .string nm] w fun e w' => e = .returned (.bool true) ∧ Below w.heap.size w w' := by
  have HB := Lib.hid (bel_alloc (bel_alloc (Below.refl w.heap.size w) (.cells #[.slice a.AW s.W.length a.cW, .slice a.AI a.nI a.cI, .slice a.AN a.nN a.cN, .slice a.AB s.B.length a.cB, .slice a.AV a.nV a.cV] 27)) (.cells #[.int .i64 t.f0, .string t.f1, .string t.f2, .int .i64 t.f3, .slice A t.f4.length c] 29))
  have HS := Lib.hid (blk_alloc (blk_new w (.cells #[.slice a.AW s.W.length a.cW, .slice a.AI a.nI a.cI, .slice a.AN a.nN a.cN, .slice a.AB s.B.length a.cB, .slice a.AV a.nV a.cV] 27)) (.cells #[.int .i64 t.f0, .string t.f1, .string t.f2, .int .i64 t.f3, .slice A t.f4.length c] 29))
  have HT := Lib.hid ((show ((w.alloc (.cells #[.slice a.AW s.W.length a.cW, .slice a.AI a.nI a.cI, .slice a.AN a.nN a.cN, .slice a.AB s.B.length a.cB, .slice a.AV a.nV a.cV] 27)).alloc (.cells #[.int .i64 t.f0, .string t.f1, .string t.f2, .int .i64 t.f3, .slice A t.f4.length c] 29)).heap[w.heap.size + 1]? = some (.cells #[.int .i64 t.f0, .string t.f1, .string t.f2, .int .i64 t.f3, .slice A t.f4.length c] 29 (0, 0)) from blk_newN _ _ _ (by simp)))
  have HSM := Lib.hid (fun (D : Option Addr) (c : Nat) (W : World) (hb : Below w.heap.size w W) (hC : Kd.C kTy W D [t].length [t]) (hl : [t].length ≤ c) => small_any a s [t] D c W (hS.c.later hb) hC hl)
  have HX := Lib.hid (And.intro hA hc)
  generalize hW0 : ((w.alloc (.cells #[.slice a.AW s.W.length a.cW, .slice a.AI a.nI a.cI, .slice a.AN a.nN a.cN, .slice a.AB s.B.length a.cB, .slice a.AV a.nV a.cV] 27)).alloc (.cells #[.int .i64 t.f0, .string t.f1, .string t.f2, .int .i64 t.f3, .slice A t.f4.length c] 29)) = W0 at *
  have QF := Lib.hid (fun (W : World) (hb : Below W0.heap.size W0 W) => find_any a s.W s.B t A c W (hS.c.later (bel_trans HB.out hb)) ok.1)
  have RF := Lib.hid (fun (W : World) (hb : Below W0.heap.size W0 W) => ref_find_any a s.W s.B t A c W W (hS.c.later (bel_trans HB.out hb)) (Below.refl _ _))
  have QD := Lib.hid (fun (W : World) (hb : Below W0.heap.size W0 W) => field_any a s.W s.B t A c nm W (hS.c.later (bel_trans HB.out hb)) ok.1)
  have RD := Lib.hid (fun (W : World) (hb : Below W0.heap.size W0 W) => ref_field_any a s.W s.B t A c nm W (hS.c.later (bel_trans HB.out hb)))
  have QM := Lib.hid (fun (W : World) (hb : Below W0.heap.size W0 W) => (methods_any a s.W s.B t A c W (hS.c.later (bel_trans HB.out hb)) ok.1 (Kd.C_below hA (bel_trans HB.out hb)) hc).mono (fun e w' h => (show ∃ A' c', e = .returned (.slice A' (methodsP s.W s.B t).length c') ∧ (methodsP s.W s.B t).length ≤ c' ∧ Kd.C kMth w' A' (methodsP s.W s.B t).length (methodsP s.W s.B t) ∧ Below W.heap.size W w' ∧ Below W0.heap.size W0 w' from by obtain ⟨A', c', h1, h2, h3, h4⟩ := h; exact ⟨A', c', h1, h2, h3, h4, bel_trans hb h4⟩)))
  have RM := Lib.hid (fun (W : World) (hb : Below W0.heap.size W0 W) => (ref_methods_any a s.W s.B t A c W (hS.c.later (bel_trans HB.out hb)) (Kd.C_below hA (bel_trans HB.out hb)) hc).mono (fun e w' h => (show ∃ A' c', e = .returned (.slice A' (methodsP s.W s.B t).length c') ∧ (methodsP s.W s.B t).length ≤ c' ∧ Kd.C kMth w' A' (methodsP s.W s.B t).length (methodsP s.W s.B t) ∧ Below W.heap.size W w' ∧ Below W0.heap.size W0 w' from by obtain ⟨A', c', h1, h2, h3, h4⟩ := h; exact ⟨A', c', h1, h2, Kd.C_below h3 h4, h4, bel_trans hb h4⟩)))
  have QI := Lib.hid (fun (W : World) (hb : Below W0.heap.size W0 W) => (iface_any a s.W s.B t A c W (hS.c.later (bel_trans HB.out hb)) ok.1).mono (fun e w' h => (⟨h.1, bel_trans hb h.2⟩ : e = .returned (.bool (ifaceP s.W t)) ∧ Below W0.heap.size W0 w')))
  have RI := Lib.hid (fun (W : World) (hb : Below W0.heap.size W0 W) => (ref_iface_any a s.W s.B t A c W (hS.c.later (bel_trans HB.out hb))).mono (fun e w' h => (⟨h.1, bel_trans hb h.2⟩ : e = .returned (.bool (ifaceP s.W t)) ∧ Below W0.heap.size W0 w')))
  generalize ifaceP s.W t = ib at *
  generalize methodsP s.W s.B t = L at *
  have HLM : L.length ≤ 9223372036854775807 ∨ True := .inr trivial
  unfold FldOut at RD
  generalize ((fieldP s.W t nm).map (·.f1)).getD zTy = y at *
  generalize (fieldP s.W t nm).isSome = by' at *
  generalize (findP s.W t).getD zDcl = x at *
  generalize (findP s.W t).isSome = bx at *
  simp only [tyV, scV, dclV] at QF RF QD RD QM RM QI RI
  clear hS ok ht hc hA hnm HLM
  simp only [tyV, scV]
  go_enter Try.func3, Try.ntmps3
  go_wp2_with (fail)
  clear hW0
  have HS0 := HS
  have HT0 := HT
  refine (awake_any _).mono ?_
  rintro e1 w1 ⟨rfl, hb⟩
  replace HS := Lib.hid (blk_later hb HS.out)
  replace HT := Lib.hid (blk_later hb HT.out)
  have HBW := Lib.hid hb
  clear hb
  have s0 := (blk_cell HS.out 0).trans rfl
  have s1 := (blk_cell HS.out 1).trans rfl
  have s2 := (blk_cell HS.out 2).trans rfl
  have s3 := (blk_cell HS.out 3).trans rfl
  have s4 := (blk_cell HS.out 4).trans rfl
  have t0 := (blk_cell HT.out 0).trans rfl
  have t1 := (blk_cell HT.out 1).trans rfl
  have t2 := (blk_cell HT.out 2).trans rfl
  have t3 := (blk_cell HT.out 3).trans rfl
  have t4 := (blk_cell HT.out 4).trans rfl
  go_wp2_with (fail)
  have HR := Lib.hid (blk_new w1 (.cells #[.int .i64 t.f0, .string t.f1, .string t.f2, .int .i64 t.f3, .slice A t.f4.length c] 29))
  have HB2 := Lib.hid (bel_alloc HBW.out (.cells #[.int .i64 t.f0, .string t.f1, .string t.f2, .int .i64 t.f3, .slice A t.f4.length c] 29))
  have HSM2 := Lib.hid (HSM.out (some ⟨w1.heap.size, 0, none⟩) 1 (w1.alloc (.cells #[.int .i64 t.f0, .string t.f1, .string t.f2, .int .i64 t.f3, .slice A t.f4.length c] 29)) (bel_trans HB.out HB2.out) (C_ty1 HR.out (Kd.C_below HX.out.1 (bel_trans HB.out HB2.out)) HX.out.2) (Nat.le_refl 1))
  clear HSM
  have HSa := Lib.hid (blk_alloc HS.out (.cells #[.int .i64 t.f0, .string t.f1, .string t.f2, .int .i64 t.f3, .slice A t.f4.length c] 29))
  have HTa := Lib.hid (blk_alloc HT.out (.cells #[.int .i64 t.f0, .string t.f1, .string t.f2, .int .i64 t.f3, .slice A t.f4.length c] 29))
  clear HS HT HR s0 s1 s2 s3 s4 t0 t1 t2 t3 t4
  refine HSM2.out.mono ?_
  rintro e2 w2 ⟨r, rfl, hb⟩
  have HS := Lib.hid (blk_later hb HSa.out)
  have HT := Lib.hid (blk_later hb HTa.out)
  replace HBW := Lib.hid (bel_trans HB2.out hb)
  clear hb HSM2 HSa HTa HB2
  cases r with
  | false =>
    go_wp2_with (fail)
    go_ret
    exact ⟨rfl, bel_trans HB.out HBW.out⟩
  | true =>
    have s0 := (blk_cell HS.out 0).trans rfl
    have s1 := (blk_cell HS.out 1).trans rfl
    have s2 := (blk_cell HS.out 2).trans rfl
    have s3 := (blk_cell HS.out 3).trans rfl
    have s4 := (blk_cell HS.out 4).trans rfl
    have t0 := (blk_cell HT.out 0).trans rfl
    have t1 := (blk_cell HT.out 1).trans rfl
    have t2 := (blk_cell HT.out 2).trans rfl
    have t3 := (blk_cell HT.out 3).trans rfl
    have t4 := (blk_cell HT.out 4).trans rfl
    go_wp2_with (fail)
    refine (QF.out _ HBW.out).mono ?_
    rintro e3 w3 ⟨D1, p1, E1, q1, rfl, l1, k1, m1, n1, hb⟩
    replace HS := Lib.hid (blk_later hb HS.out)
    replace HT := Lib.hid (blk_later hb HT.out)
    replace HBW := Lib.hid (bel_trans HBW.out hb)
    have KD := Lib.hid (And.intro l1 (And.intro (Kd.F_now k1) (And.intro m1 (Kd.F_now n1))))
    clear l1 k1 m1 n1
    clear hb s0 s1 s2 s3 s4 t0 t1 t2 t3 t4
    replace HS := Lib.hid (blk_alloc HS.out (.cells #[.string x.f0, .bool x.f1, .slice D1 x.f2.length p1, .slice E1 x.f3.length q1] 35))
    replace HT := Lib.hid (blk_alloc HT.out (.cells #[.string x.f0, .bool x.f1, .slice D1 x.f2.length p1, .slice E1 x.f3.length q1] 35))
    have HD := Lib.hid (blk_new w3 (.cells #[.string x.f0, .bool x.f1, .slice D1 x.f2.length p1, .slice E1 x.f3.length q1] 35))
    replace HBW := Lib.hid (bel_alloc HBW.out (.cells #[.string x.f0, .bool x.f1, .slice D1 x.f2.length p1, .slice E1 x.f3.length q1] 35))
    replace KD := Lib.hid (And.intro KD.out.1 (And.intro (Kd.C_below KD.out.2.1 (bel_alloc (Below.refl _ _) (.cells #[.string x.f0, .bool x.f1, .slice D1 x.f2.length p1, .slice E1 x.f3.length q1] 35))) (And.intro KD.out.2.2.1 (Kd.C_below KD.out.2.2.2 (bel_alloc (Below.refl _ _) (.cells #[.string x.f0, .bool x.f1, .slice D1 x.f2.length p1, .slice E1 x.f3.length q1] 35))))))
    have s0 := (blk_cell HS.out 0).trans rfl
    have s1 := (blk_cell HS.out 1).trans rfl
    have s2 := (blk_cell HS.out 2).trans rfl
    have s3 := (blk_cell HS.out 3).trans rfl
    have s4 := (blk_cell HS.out 4).trans rfl
    have t0 := (blk_cell HT.out 0).trans rfl
    have t1 := (blk_cell HT.out 1).trans rfl
    have t2 := (blk_cell HT.out 2).trans rfl
    have t3 := (blk_cell HT.out 3).trans rfl
    have t4 := (blk_cell HT.out 4).trans rfl
    go_wp2_with (fail)
    generalize w3.alloc (.cells #[.string x.f0, .bool x.f1, .slice D1 x.f2.length p1, .slice E1 x.f3.length q1] 35) = WD at *
    generalize w3.heap.size = gD at *
    refine (RF.out _ HBW.out).mono ?_
    rintro e3 w3 ⟨D2, p2, E2, q2, rfl, l1, k1, m1, n1, hb⟩
    replace HS := Lib.hid (blk_later hb HS.out)
    replace HT := Lib.hid (blk_later hb HT.out)
    replace HD := Lib.hid (blk_later hb HD.out)
    replace HBW := Lib.hid (bel_trans HBW.out hb)
    replace KD := Lib.hid (And.intro KD.out.1 (And.intro (Kd.C_below KD.out.2.1 hb) (And.intro KD.out.2.2.1 (Kd.C_below KD.out.2.2.2 hb))))
    have KE := Lib.hid (And.intro l1 (And.intro (Kd.C_below k1 hb) (And.intro m1 (Kd.C_below n1 hb))))
    clear l1 k1 m1 n1
    clear hb s0 s1 s2 s3 s4 t0 t1 t2 t3 t4
    replace HS := Lib.hid (blk_alloc HS.out (.cells #[.string x.f0, .bool x.f1, .slice D2 x.f2.length p2, .slice E2 x.f3.length q2] 35))
    replace HT := Lib.hid (blk_alloc HT.out (.cells #[.string x.f0, .bool x.f1, .slice D2 x.f2.length p2, .slice E2 x.f3.length q2] 35))
    replace HD := Lib.hid (blk_alloc HD.out (.cells #[.string x.f0, .bool x.f1, .slice D2 x.f2.length p2, .slice E2 x.f3.length q2] 35))
    have HE := Lib.hid (blk_new w3 (.cells #[.string x.f0, .bool x.f1, .slice D2 x.f2.length p2, .slice E2 x.f3.length q2] 35))
    replace HBW := Lib.hid (bel_alloc HBW.out (.cells #[.string x.f0, .bool x.f1, .slice D2 x.f2.length p2, .slice E2 x.f3.length q2] 35))
    replace KD := Lib.hid (And.intro KD.out.1 (And.intro (Kd.C_below KD.out.2.1 (bel_alloc (Below.refl _ _) (.cells #[.string x.f0, .bool x.f1, .slice D2 x.f2.length p2, .slice E2 x.f3.length q2] 35))) (And.intro KD.out.2.2.1 (Kd.C_below KD.out.2.2.2 (bel_alloc (Below.refl _ _) (.cells #[.string x.f0, .bool x.f1, .slice D2 x.f2.length p2, .slice E2 x.f3.length q2] 35))))))
    replace KE := Lib.hid (And.intro KE.out.1 (And.intro (Kd.C_below KE.out.2.1 (bel_alloc (Below.refl _ _) (.cells #[.string x.f0, .bool x.f1, .slice D2 x.f2.length p2, .slice E2 x.f3.length q2] 35))) (And.intro KE.out.2.2.1 (Kd.C_below KE.out.2.2.2 (bel_alloc (Below.refl _ _) (.cells #[.string x.f0, .bool x.f1, .slice D2 x.f2.length p2, .slice E2 x.f3.length q2] 35))))))
    have s0 := (blk_cell HS.out 0).trans rfl
    have s1 := (blk_cell HS.out 1).trans rfl
    have s2 := (blk_cell HS.out 2).trans rfl
    have s3 := (blk_cell HS.out 3).trans rfl
    have s4 := (blk_cell HS.out 4).trans rfl
    have t0 := (blk_cell HT.out 0).trans rfl
    have t1 := (blk_cell HT.out 1).trans rfl
    have t2 := (blk_cell HT.out 2).trans rfl
    have t3 := (blk_cell HT.out 3).trans rfl
    have t4 := (blk_cell HT.out 4).trans rfl
    go_wp2_with (fail)
    generalize w3.alloc (.cells #[.string x.f0, .bool x.f1, .slice D2 x.f2.length p2, .slice E2 x.f3.length q2] 35) = WE at *
    generalize w3.heap.size = gE at *
    refine (QD.out _ HBW.out).mono ?_
    rintro e3 w3 ⟨D3, p3, rfl, l1, k1, hb⟩
    replace HS := Lib.hid (blk_later hb HS.out)
    replace HT := Lib.hid (blk_later hb HT.out)
    replace HD := Lib.hid (blk_later hb HD.out)
    replace HE := Lib.hid (blk_later hb HE.out)
    replace HBW := Lib.hid (bel_trans HBW.out hb)
    replace KD := Lib.hid (And.intro KD.out.1 (And.intro (Kd.C_below KD.out.2.1 hb) (And.intro KD.out.2.2.1 (Kd.C_below KD.out.2.2.2 hb))))
    replace KE := Lib.hid (And.intro KE.out.1 (And.intro (Kd.C_below KE.out.2.1 hb) (And.intro KE.out.2.2.1 (Kd.C_below KE.out.2.2.2 hb))))
    have KF := Lib.hid (And.intro l1 k1)
    clear l1 k1
    clear hb s0 s1 s2 s3 s4 t0 t1 t2 t3 t4
    replace HS := Lib.hid (blk_alloc HS.out (.cells #[.int .i64 y.f0, .string y.f1, .string y.f2, .int .i64 y.f3, .slice D3 y.f4.length p3] 29))
    replace HT := Lib.hid (blk_alloc HT.out (.cells #[.int .i64 y.f0, .string y.f1, .string y.f2, .int .i64 y.f3, .slice D3 y.f4.length p3] 29))
    replace HD := Lib.hid (blk_alloc HD.out (.cells #[.int .i64 y.f0, .string y.f1, .string y.f2, .int .i64 y.f3, .slice D3 y.f4.length p3] 29))
    replace HE := Lib.hid (blk_alloc HE.out (.cells #[.int .i64 y.f0, .string y.f1, .string y.f2, .int .i64 y.f3, .slice D3 y.f4.length p3] 29))
    have HF := Lib.hid (blk_new w3 (.cells #[.int .i64 y.f0, .string y.f1, .string y.f2, .int .i64 y.f3, .slice D3 y.f4.length p3] 29))
    replace HBW := Lib.hid (bel_alloc HBW.out (.cells #[.int .i64 y.f0, .string y.f1, .string y.f2, .int .i64 y.f3, .slice D3 y.f4.length p3] 29))
    replace KD := Lib.hid (And.intro KD.out.1 (And.intro (Kd.C_below KD.out.2.1 (bel_alloc (Below.refl _ _) (.cells #[.int .i64 y.f0, .string y.f1, .string y.f2, .int .i64 y.f3, .slice D3 y.f4.length p3] 29))) (And.intro KD.out.2.2.1 (Kd.C_below KD.out.2.2.2 (bel_alloc (Below.refl _ _) (.cells #[.int .i64 y.f0, .string y.f1, .string y.f2, .int .i64 y.f3, .slice D3 y.f4.length p3] 29))))))
    replace KE := Lib.hid (And.intro KE.out.1 (And.intro (Kd.C_below KE.out.2.1 (bel_alloc (Below.refl _ _) (.cells #[.int .i64 y.f0, .string y.f1, .string y.f2, .int .i64 y.f3, .slice D3 y.f4.length p3] 29))) (And.intro KE.out.2.2.1 (Kd.C_below KE.out.2.2.2 (bel_alloc (Below.refl _ _) (.cells #[.int .i64 y.f0, .string y.f1, .string y.f2, .int .i64 y.f3, .slice D3 y.f4.length p3] 29))))))
    replace KF := Lib.hid (And.intro KF.out.1 (Kd.C_below KF.out.2 (bel_alloc (Below.refl _ _) (.cells #[.int .i64 y.f0, .string y.f1, .string y.f2, .int .i64 y.f3, .slice D3 y.f4.length p3] 29))))
    have s0 := (blk_cell HS.out 0).trans rfl
    have s1 := (blk_cell HS.out 1).trans rfl
    have s2 := (blk_cell HS.out 2).trans rfl
    have s3 := (blk_cell HS.out 3).trans rfl
    have s4 := (blk_cell HS.out 4).trans rfl
    have t0 := (blk_cell HT.out 0).trans rfl
    have t1 := (blk_cell HT.out 1).trans rfl
    have t2 := (blk_cell HT.out 2).trans rfl
    have t3 := (blk_cell HT.out 3).trans rfl
    have t4 := (blk_cell HT.out 4).trans rfl
    go_wp2_with (fail)
    generalize w3.alloc (.cells #[.int .i64 y.f0, .string y.f1, .string y.f2, .int .i64 y.f3, .slice D3 y.f4.length p3] 29) = WF at *
    generalize w3.heap.size = gF at *
    refine (RD.out _ HBW.out).mono ?_
    rintro e3 w3 ⟨D4, p4, rfl, l1, k1, hb⟩
    replace HS := Lib.hid (blk_later hb HS.out)
    replace HT := Lib.hid (blk_later hb HT.out)
    replace HD := Lib.hid (blk_later hb HD.out)
    replace HE := Lib.hid (blk_later hb HE.out)
    replace HF := Lib.hid (blk_later hb HF.out)
    replace HBW := Lib.hid (bel_trans HBW.out hb)
    replace KD := Lib.hid (And.intro KD.out.1 (And.intro (Kd.C_below KD.out.2.1 hb) (And.intro KD.out.2.2.1 (Kd.C_below KD.out.2.2.2 hb))))
    replace KE := Lib.hid (And.intro KE.out.1 (And.intro (Kd.C_below KE.out.2.1 hb) (And.intro KE.out.2.2.1 (Kd.C_below KE.out.2.2.2 hb))))
    replace KF := Lib.hid (And.intro KF.out.1 (Kd.C_below KF.out.2 hb))
    have KG := Lib.hid (And.intro l1 (Kd.C_below k1 hb))
    clear l1 k1
    clear hb s0 s1 s2 s3 s4 t0 t1 t2 t3 t4
    replace HS := Lib.hid (blk_alloc HS.out (.cells #[.int .i64 y.f0, .string y.f1, .string y.f2, .int .i64 y.f3, .slice D4 y.f4.length p4] 29))
    replace HT := Lib.hid (blk_alloc HT.out (.cells #[.int .i64 y.f0, .string y.f1, .string y.f2, .int .i64 y.f3, .slice D4 y.f4.length p4] 29))
    replace HD := Lib.hid (blk_alloc HD.out (.cells #[.int .i64 y.f0, .string y.f1, .string y.f2, .int .i64 y.f3, .slice D4 y.f4.length p4] 29))
    replace HE := Lib.hid (blk_alloc HE.out (.cells #[.int .i64 y.f0, .string y.f1, .string y.f2, .int .i64 y.f3, .slice D4 y.f4.length p4] 29))
    replace HF := Lib.hid (blk_alloc HF.out (.cells #[.int .i64 y.f0, .string y.f1, .string y.f2, .int .i64 y.f3, .slice D4 y.f4.length p4] 29))
    have HG := Lib.hid (blk_new w3 (.cells #[.int .i64 y.f0, .string y.f1, .string y.f2, .int .i64 y.f3, .slice D4 y.f4.length p4] 29))
    replace HBW := Lib.hid (bel_alloc HBW.out (.cells #[.int .i64 y.f0, .string y.f1, .string y.f2, .int .i64 y.f3, .slice D4 y.f4.length p4] 29))
    replace KD := Lib.hid (And.intro KD.out.1 (And.intro (Kd.C_below KD.out.2.1 (bel_alloc (Below.refl _ _) (.cells #[.int .i64 y.f0, .string y.f1, .string y.f2, .int .i64 y.f3, .slice D4 y.f4.length p4] 29))) (And.intro KD.out.2.2.1 (Kd.C_below KD.out.2.2.2 (bel_alloc (Below.refl _ _) (.cells #[.int .i64 y.f0, .string y.f1, .string y.f2, .int .i64 y.f3, .slice D4 y.f4.length p4] 29))))))
    replace KE := Lib.hid (And.intro KE.out.1 (And.intro (Kd.C_below KE.out.2.1 (bel_alloc (Below.refl _ _) (.cells #[.int .i64 y.f0, .string y.f1, .string y.f2, .int .i64 y.f3, .slice D4 y.f4.length p4] 29))) (And.intro KE.out.2.2.1 (Kd.C_below KE.out.2.2.2 (bel_alloc (Below.refl _ _) (.cells #[.int .i64 y.f0, .string y.f1, .string y.f2, .int .i64 y.f3, .slice D4 y.f4.length p4] 29))))))
    replace KF := Lib.hid (And.intro KF.out.1 (Kd.C_below KF.out.2 (bel_alloc (Below.refl _ _) (.cells #[.int .i64 y.f0, .string y.f1, .string y.f2, .int .i64 y.f3, .slice D4 y.f4.length p4] 29))))
    replace KG := Lib.hid (And.intro KG.out.1 (Kd.C_below KG.out.2 (bel_alloc (Below.refl _ _) (.cells #[.int .i64 y.f0, .string y.f1, .string y.f2, .int .i64 y.f3, .slice D4 y.f4.length p4] 29))))
    have d0 := (blk_cell HD.out 0).trans rfl
    have d1 := (blk_cell HD.out 1).trans rfl
    have d2 := (blk_cell HD.out 2).trans rfl
    have d3 := (blk_cell HD.out 3).trans rfl
    have f0 := (blk_cell HE.out 0).trans rfl
    have f1 := (blk_cell HE.out 1).trans rfl
    have f2 := (blk_cell HE.out 2).trans rfl
    have f3 := (blk_cell HE.out 3).trans rfl
    go_wp2_with (fail)
    generalize w3.alloc (.cells #[.int .i64 y.f0, .string y.f1, .string y.f2, .int .i64 y.f3, .slice D4 y.f4.length p4] 29) = WG at *
    generalize w3.heap.size = gG at *
    have CS := Lib.hid (sametype_self x D1 E1 D2 E2 p1 q1 p2 q2 _ KD.out.2.1 KD.out.1 KD.out.2.2.2 KD.out.2.2.1 KE.out.2.1 KE.out.1 KE.out.2.2.2 KE.out.2.2.1)
    refine CS.out.mono ?_
    rintro e4 w4 ⟨rfl, hb⟩
    replace HS := Lib.hid (blk_later hb HS.out)
    replace HT := Lib.hid (blk_later hb HT.out)
    replace HD := Lib.hid (blk_later hb HD.out)
    replace HE := Lib.hid (blk_later hb HE.out)
    replace HF := Lib.hid (blk_later hb HF.out)
    replace HG := Lib.hid (blk_later hb HG.out)
    replace HBW := Lib.hid (bel_trans HBW.out hb)
    replace KF := Lib.hid (And.intro KF.out.1 (Kd.C_below KF.out.2 hb))
    replace KG := Lib.hid (And.intro KG.out.1 (Kd.C_below KG.out.2 hb))
    clear hb CS KD KE d0 d1 d2 d3 f0 f1 f2 f3
    have d0 := (blk_cell HF.out 0).trans rfl
    have d1 := (blk_cell HF.out 1).trans rfl
    have d2 := (blk_cell HF.out 2).trans rfl
    have d3 := (blk_cell HF.out 3).trans rfl
    have d4 := (blk_cell HF.out 4).trans rfl
    have f0 := (blk_cell HG.out 0).trans rfl
    have f1 := (blk_cell HG.out 1).trans rfl
    have f2 := (blk_cell HG.out 2).trans rfl
    have f3 := (blk_cell HG.out 3).trans rfl
    have f4 := (blk_cell HG.out 4).trans rfl
    have CE := Lib.hid (equal_self (tyAll y) D3 D4 p3 p4 _ KF.out.2 KF.out.1 KG.out.2 KG.out.1)
    go_wp2_with (fail)
    refine CE.out.mono ?_
    rintro e5 w5 ⟨rfl, hb⟩
    replace HS := Lib.hid (blk_later hb HS.out)
    replace HT := Lib.hid (blk_later hb HT.out)
    replace HD := Lib.hid (blk_later hb HD.out)
    replace HE := Lib.hid (blk_later hb HE.out)
    replace HF := Lib.hid (blk_later hb HF.out)
    replace HG := Lib.hid (blk_later hb HG.out)
    replace HBW := Lib.hid (bel_trans HBW.out hb)
    clear hb CE KF KG d0 d1 d2 d3 d4 f0 f1 f2 f3 f4
    have HSB := Lib.hid (fun (W : World) (hb : Below W0.heap.size W0 W) => (show W.cell? ⟨w.heap.size, 0, none⟩ = some (.slice a.AW s.W.length a.cW) ∧ W.cell? ⟨w.heap.size, 1, none⟩ = some (.slice a.AI a.nI a.cI) ∧ W.cell? ⟨w.heap.size, 2, none⟩ = some (.slice a.AN a.nN a.cN) ∧ W.cell? ⟨w.heap.size, 3, none⟩ = some (.slice a.AB s.B.length a.cB) ∧ W.cell? ⟨w.heap.size, 4, none⟩ = some (.slice a.AV a.nV a.cV) ∧ W.cell? ⟨w.heap.size + 1, 0, none⟩ = some (.int .i64 t.f0) ∧ W.cell? ⟨w.heap.size + 1, 1, none⟩ = some (.string t.f1) ∧ W.cell? ⟨w.heap.size + 1, 2, none⟩ = some (.string t.f2) ∧ W.cell? ⟨w.heap.size + 1, 3, none⟩ = some (.int .i64 t.f3) ∧ W.cell? ⟨w.heap.size + 1, 4, none⟩ = some (.slice A t.f4.length c) from ⟨(blk_cell (blk_later hb HS0.out) 0).trans rfl, (blk_cell (blk_later hb HS0.out) 1).trans rfl, (blk_cell (blk_later hb HS0.out) 2).trans rfl, (blk_cell (blk_later hb HS0.out) 3).trans rfl, (blk_cell (blk_later hb HS0.out) 4).trans rfl, (blk_cell (blk_later hb HT0.out) 0).trans rfl, (blk_cell (blk_later hb HT0.out) 1).trans rfl, (blk_cell (blk_later hb HT0.out) 2).trans rfl, (blk_cell (blk_later hb HT0.out) 3).trans rfl, (blk_cell (blk_later hb HT0.out) 4).trans rfl⟩))
    have hbw := HBW.out
    clear HS HT HD HE HF HG HBW QF RF QD RD
    have CMS := Lib.hid (fun (A1 A2 : Option Addr) (c1 c2 : Nat) (W : World) (h1 : Kd.C kMth W A1 L.length L) (l1 : L.length ≤ c1) (h2 : Kd.C kMth W A2 L.length L) (l2 : L.length ≤ c2) (hb : Below W0.heap.size W0 W) => (methods_self L A1 A2 c1 c2 W h1 l1 h2 l2).mono (fun e w' h => (⟨h.1, bel_trans hb h.2⟩ : e = .returned (.bool true) ∧ Below W0.heap.size W0 w')))
    go_wp2_with (fail)
    go_cut [19] (fun v wx => v = .bool true ∧ Below W0.heap.size W0 wx)
    case first =>
      go_region_held3 (fun W : World => W.cell? ⟨w.heap.size, 0, none⟩ = some (.slice a.AW s.W.length a.cW) ∧ W.cell? ⟨w.heap.size, 1, none⟩ = some (.slice a.AI a.nI a.cI) ∧ W.cell? ⟨w.heap.size, 2, none⟩ = some (.slice a.AN a.nN a.cN) ∧ W.cell? ⟨w.heap.size, 3, none⟩ = some (.slice a.AB s.B.length a.cB) ∧ W.cell? ⟨w.heap.size, 4, none⟩ = some (.slice a.AV a.nV a.cV) ∧ W.cell? ⟨w.heap.size + 1, 0, none⟩ = some (.int .i64 t.f0) ∧ W.cell? ⟨w.heap.size + 1, 1, none⟩ = some (.string t.f1) ∧ W.cell? ⟨w.heap.size + 1, 2, none⟩ = some (.string t.f2) ∧ W.cell? ⟨w.heap.size + 1, 3, none⟩ = some (.int .i64 t.f3) ∧ W.cell? ⟨w.heap.size + 1, 4, none⟩ = some (.slice A t.f4.length c)) ((refine HSB.out _ ?_; repeat (first | assumption | refine bel_drew ?_ | refine bel_drewN ?_ _))) (first | (go_at_call 23; refine (QM.out _ (by repeat (first | assumption | refine bel_drew ?_ | refine bel_drewN ?_ _))).mono ?_; rintro e w6 ⟨A1, c1, rfl, hl1, hC1, hb6, hi6⟩) | (go_at_call 24; refine (RM.out _ (by repeat (first | assumption | refine bel_drew ?_ | refine bel_drewN ?_ _))).mono ?_; rintro e w7 ⟨A2, c2, rfl, hl2, hC2, hb7, hi7⟩) | (go_at_call 22; refine (CMS.out _ _ _ _ _ (Kd.C_below hC1 (by repeat (first | assumption | exact Below.refl _ _ | refine bel_drew ?_ | refine bel_drewN ?_ _ | refine bel_trans (bel_drew (Below.refl _ _)) (by assumption)))) hl1 (Kd.C_below hC2 (by repeat (first | assumption | exact Below.refl _ _ | refine bel_drew ?_ | refine bel_drewN ?_ _ | refine bel_trans (bel_drew (Below.refl _ _)) (by assumption)))) hl2 (by repeat (first | assumption | refine bel_drew ?_ | refine bel_drewN ?_ _))).mono ?_; rintro e w8 ⟨rfl, hi8⟩))
      all_goals
        go_wp2_with (fail)
        go_meet
        exact ⟨rfl, (by repeat (first | assumption | refine bel_drew ?_ | refine bel_drewN ?_ _))⟩
    case rest =>
    obtain ⟨rfl, hbx⟩ := hcut
    go_wp2_with (fail)
    go_region_held3 (fun W : World => W.cell? ⟨w.heap.size, 0, none⟩ = some (.slice a.AW s.W.length a.cW) ∧ W.cell? ⟨w.heap.size, 1, none⟩ = some (.slice a.AI a.nI a.cI) ∧ W.cell? ⟨w.heap.size, 2, none⟩ = some (.slice a.AN a.nN a.cN) ∧ W.cell? ⟨w.heap.size, 3, none⟩ = some (.slice a.AB s.B.length a.cB) ∧ W.cell? ⟨w.heap.size, 4, none⟩ = some (.slice a.AV a.nV a.cV) ∧ W.cell? ⟨w.heap.size + 1, 0, none⟩ = some (.int .i64 t.f0) ∧ W.cell? ⟨w.heap.size + 1, 1, none⟩ = some (.string t.f1) ∧ W.cell? ⟨w.heap.size + 1, 2, none⟩ = some (.string t.f2) ∧ W.cell? ⟨w.heap.size + 1, 3, none⟩ = some (.int .i64 t.f3) ∧ W.cell? ⟨w.heap.size + 1, 4, none⟩ = some (.slice A t.f4.length c)) ((refine HSB.out _ ?_; repeat (first | assumption | refine bel_drew ?_ | refine bel_drewN ?_ _))) (first | (go_at_call 25; refine (QI.out _ (by repeat (first | assumption | refine bel_drew ?_ | refine bel_drewN ?_ _))).mono ?_; rintro e w6 ⟨rfl, hb6⟩) | (go_at_call 26; refine (RI.out _ (by repeat (first | assumption | refine bel_drew ?_ | refine bel_drewN ?_ _))).mono ?_; rintro e w7 ⟨rfl, hb7⟩))
    all_goals
      go_wp2_with (fail)
      go_ret
      exact ⟨by simp, bel_trans HB.out (by repeat (first | assumption | refine bel_drew ?_ | refine bel_drewN ?_ _))⟩
end Go.Proofs.Ytbhagjhhgmmcgaa
