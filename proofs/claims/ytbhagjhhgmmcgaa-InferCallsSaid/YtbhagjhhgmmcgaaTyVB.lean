/- InferCalls: any call's type, and what is wrong with it, is the document's. -/
import Derived.Test.YtbhagjhhgmmcgaaTyVA
namespace Go.Proofs.Ytbhagjhhgmmcgaa
open Go.RowKit PRef Go.Proofs.YtbhagjhhgmmcgaaW.PrintWords
set_option linter.unusedVariables false
set_option linter.unusedSimpArgs false

set_option maxRecDepth 100000 in
set_option maxHeartbeats 8000000 in
theorem inferCalls_any (s : Scp) (a : ScA) (f : Fun) (b : FnA) (AA : Option Addr) (args : List Ty) (ca : Nat) (w : World) (ok : WOk s.W ∧ (∀ t ∈ s.B, TyOk t) ∧ s.W.length * 64 ≤ 140737488351232) (hS : ScpC a s w) (okf : FunW f) (hF : FnC b f w) (lA : args.length ≤ ca) (h72 : args.length * 72 ≤ 140737488351232) (ha : ∀ x ∈ args, TyW x) (hA : Kd.C kTy w AA args.length args) :
    Calls Try.prog 11 #[scV a s.W s.B, .agg (fnCs b f), .slice AA args.length ca] w fun e w' => e = .returned (.bool true) ∧ Below w.heap.size w w' := by
  have HB := Lib.hid (bel_alloc (bel_alloc (Below.refl w.heap.size w) (.cells #[.slice a.AW s.W.length a.cW, .slice a.AI a.nI a.cI, .slice a.AN a.nN a.cN, .slice a.AB s.B.length a.cB, .slice a.AV a.nV a.cV] 27)) (.cells #[.string f.f0, .slice b.A1 f.f1.length b.c1, .slice b.A2 f.f2.length b.c2, .int .i64 f.f3.f0, .string f.f3.f1, .string f.f3.f2, .int .i64 f.f3.f3, .slice b.A7 f.f3.f4.length b.c7] 58))
  have HS := Lib.hid (blk_alloc (blk_new w (.cells #[.slice a.AW s.W.length a.cW, .slice a.AI a.nI a.cI, .slice a.AN a.nN a.cN, .slice a.AB s.B.length a.cB, .slice a.AV a.nV a.cV] 27)) (.cells #[.string f.f0, .slice b.A1 f.f1.length b.c1, .slice b.A2 f.f2.length b.c2, .int .i64 f.f3.f0, .string f.f3.f1, .string f.f3.f2, .int .i64 f.f3.f3, .slice b.A7 f.f3.f4.length b.c7] 58))
  have HF := Lib.hid ((show ((w.alloc (.cells #[.slice a.AW s.W.length a.cW, .slice a.AI a.nI a.cI, .slice a.AN a.nN a.cN, .slice a.AB s.B.length a.cB, .slice a.AV a.nV a.cV] 27)).alloc (.cells #[.string f.f0, .slice b.A1 f.f1.length b.c1, .slice b.A2 f.f2.length b.c2, .int .i64 f.f3.f0, .string f.f3.f1, .string f.f3.f2, .int .i64 f.f3.f3, .slice b.A7 f.f3.f4.length b.c7] 58)).heap[w.heap.size + 1]? = some (.cells #[.string f.f0, .slice b.A1 f.f1.length b.c1, .slice b.A2 f.f2.length b.c2, .int .i64 f.f3.f0, .string f.f3.f1, .string f.f3.f2, .int .i64 f.f3.f3, .slice b.A7 f.f3.f4.length b.c7] 58 (0, 0)) from blk_newN _ _ _ (by simp)))
  generalize hW0 : ((w.alloc (.cells #[.slice a.AW s.W.length a.cW, .slice a.AI a.nI a.cI, .slice a.AN a.nN a.cN, .slice a.AB s.B.length a.cB, .slice a.AV a.nV a.cV] 27)).alloc (.cells #[.string f.f0, .slice b.A1 f.f1.length b.c1, .slice b.A2 f.f2.length b.c2, .int .i64 f.f3.f0, .string f.f3.f1, .string f.f3.f2, .int .i64 f.f3.f3, .slice b.A7 f.f3.f4.length b.c7] 58)) = W0 at *
  have HSA := Lib.hid (fun (W : World) (hb : Below W0.heap.size W0 W) => (small12_any args AA ca W (Kd.C_below hA (bel_trans HB.out hb)) lA).mono (fun e w' h => (⟨h.choose, h.choose_spec.1, bel_trans hb h.choose_spec.2.2⟩ : ∃ r : Bool, e = .returned (.bool r) ∧ Below W0.heap.size W0 w')))
  have HSP := Lib.hid (fun (W : World) (hb : Below W0.heap.size W0 W) => (small12_any f.f2 b.A2 b.c2 W (Kd.C_below hF.p_ (bel_trans HB.out hb)) hF.pc).mono (fun e w' h => (⟨h.choose, h.choose_spec.1, h.choose_spec.2.1, bel_trans hb h.choose_spec.2.2⟩ : ∃ r : Bool, e = .returned (.bool r) ∧ (r = true → SmallL f.f2) ∧ Below W0.heap.size W0 w')))
  have HSQ := Lib.hid (fun (W : World) (hb : Below W0.heap.size W0 W) => (small12_any f.f1 b.A1 b.c1 W (Kd.C_below hF.b_ (bel_trans HB.out hb)) hF.bc).mono (fun e w' h => (⟨h.choose, h.choose_spec.1, bel_trans hb h.choose_spec.2.2⟩ : ∃ r : Bool, e = .returned (.bool r) ∧ Below W0.heap.size W0 w')))
  have HLT := Lib.hid (fun (W : World) (hb : Below W0.heap.size W0 W) => (little_any a s W (hS.c.later (bel_trans HB.out hb))).mono (fun e w' h => (⟨h.choose, h.choose_spec.1, bel_trans hb h.choose_spec.2⟩ : ∃ r : Bool, e = .returned (.bool r) ∧ Below W0.heap.size W0 w')))
  have HPT := Lib.hid (fun (W : World) (hb : Below W0.heap.size W0 W) => (parts12_any (tyAll f.f3) b.A7 b.c7 0 W (by omega) (by omega) (Kd.C_below hF.r_ (bel_trans HB.out hb)) hF.rc).mono (fun e w' h => (⟨h.1, bel_trans hb h.2⟩ : e = .returned (.int .i64 (partsT f.f3 0)) ∧ Below W0.heap.size W0 w')))
  have HCA := Lib.hid (fun (W : World) (hb : Below W0.heap.size W0 W) (hp : SmallL f.f2) => call_show a s.W s.B f b args AA ca W (hS.c.later (bel_trans HB.out hb)) ok.1 (hF.later (bel_trans HB.out hb)) (Kd.C_below hA (bel_trans HB.out hb)) lA okf.2.2.2.1 ha okf.2.2.2.2.ok hp)
  have HCR := Lib.hid (fun (W : World) (hb : Below W0.heap.size W0 W) (hp : SmallL f.f2) => ref_call_show a s.W s.B f b args AA ca W (hS.c.later (bel_trans HB.out hb)) ok.1 (hF.later (bel_trans HB.out hb)) (Kd.C_below hA (bel_trans HB.out hb)) lA okf.2.2.2.1 okf.2.2.2.2.ok hp)
  have HLL := callL_bound s.W s.B f args (show args.length ≤ 9000000000000000000 by omega)
  generalize callT f args = TT at *
  generalize callL s.W s.B f args = LL at *
  generalize partsT f.f3 0 = pn at *
  have HLH := Lib.hid HLL
  simp only [tyV, scCs, fnCs] at HCA HCR
  clear hS ok okf hF lA h72 ha hA HLL
  simp only [scV, fnCs]
  have HSB := Lib.hid (fun (W : World) (hb : Below W0.heap.size W0 W) => (show W.cell? ⟨w.heap.size, 0, none⟩ = some (.slice a.AW s.W.length a.cW) ∧ W.cell? ⟨w.heap.size, 1, none⟩ = some (.slice a.AI a.nI a.cI) ∧ W.cell? ⟨w.heap.size, 2, none⟩ = some (.slice a.AN a.nN a.cN) ∧ W.cell? ⟨w.heap.size, 3, none⟩ = some (.slice a.AB s.B.length a.cB) ∧ W.cell? ⟨w.heap.size, 4, none⟩ = some (.slice a.AV a.nV a.cV) ∧ W.cell? ⟨w.heap.size + 1, 0, none⟩ = some (.string f.f0) ∧ W.cell? ⟨w.heap.size + 1, 1, none⟩ = some (.slice b.A1 f.f1.length b.c1) ∧ W.cell? ⟨w.heap.size + 1, 2, none⟩ = some (.slice b.A2 f.f2.length b.c2) ∧ W.cell? ⟨w.heap.size + 1, 3, none⟩ = some (.int .i64 f.f3.f0) ∧ W.cell? ⟨w.heap.size + 1, 4, none⟩ = some (.string f.f3.f1) ∧ W.cell? ⟨w.heap.size + 1, 5, none⟩ = some (.string f.f3.f2) ∧ W.cell? ⟨w.heap.size + 1, 6, none⟩ = some (.int .i64 f.f3.f3) ∧ W.cell? ⟨w.heap.size + 1, 7, none⟩ = some (.slice b.A7 f.f3.f4.length b.c7) from ⟨(blk_cell (blk_later hb HS.out) 0).trans rfl, (blk_cell (blk_later hb HS.out) 1).trans rfl, (blk_cell (blk_later hb HS.out) 2).trans rfl, (blk_cell (blk_later hb HS.out) 3).trans rfl, (blk_cell (blk_later hb HS.out) 4).trans rfl, (blk_cell (blk_later hb HF.out) 0).trans rfl, (blk_cell (blk_later hb HF.out) 1).trans rfl, (blk_cell (blk_later hb HF.out) 2).trans rfl, (blk_cell (blk_later hb HF.out) 3).trans rfl, (blk_cell (blk_later hb HF.out) 4).trans rfl, (blk_cell (blk_later hb HF.out) 5).trans rfl, (blk_cell (blk_later hb HF.out) 6).trans rfl, (blk_cell (blk_later hb HF.out) 7).trans rfl⟩))
  go_enter Try.func11, Try.ntmps11
  go_wp2_with (fail)
  clear hW0
  refine (awake12_any _).mono ?_
  rintro e w1 ⟨rfl, hb1⟩
  go_wp2_with (fail)
  refine (HSA.out _ hb1).mono ?_
  rintro e w2 ⟨r1, rfl, hb2⟩
  clear hb1 HSA
  obtain ⟨z0, z1, z2, z3, z4, z5, z6, z7, z8, z9, z10, z11, z12⟩ := HSB.out w2 hb2
  go_wp2_with (fail)
  clear z0 z1 z2 z3 z4 z5 z6 z7 z8 z9 z10 z11 z12
  refine (HSP.out _ hb2).mono ?_
  rintro e w3 ⟨r2, rfl, hr2, hb3⟩
  have HR2 := Lib.hid hr2
  clear hb2 HSP hr2
  obtain ⟨z0, z1, z2, z3, z4, z5, z6, z7, z8, z9, z10, z11, z12⟩ := HSB.out w3 hb3
  go_wp2_with (fail)
  clear z0 z1 z2 z3 z4 z5 z6 z7 z8 z9 z10 z11 z12
  refine (HSQ.out _ hb3).mono ?_
  rintro e w4 ⟨r3, rfl, hb4⟩
  clear hb3 HSQ
  obtain ⟨z0, z1, z2, z3, z4, z5, z6, z7, z8, z9, z10, z11, z12⟩ := HSB.out w4 hb4
  go_wp2_with (fail)
  clear z0 z1 z2 z3 z4 z5 z6 z7 z8 z9 z10 z11 z12
  refine (HLT.out _ hb4).mono ?_
  rintro e w5 ⟨r4, rfl, hb5⟩
  clear hb4 HLT
  have HBE := Lib.hid (bel_trans HB.out hb5)
  obtain ⟨z0, z1, z2, z3, z4, z5, z6, z7, z8, z9, z10, z11, z12⟩ := HSB.out w5 hb5
  cases r1 with
  | false => (go_wp2_with (fail)); go_ret; exact ⟨rfl, HBE.out⟩
  | true =>
  cases r2 with
  | false => (go_wp2_with (fail)); go_ret; exact ⟨rfl, HBE.out⟩
  | true =>
  cases r3 with
  | false => (go_wp2_with (fail)); go_ret; exact ⟨rfl, HBE.out⟩
  | true =>
  cases r4 with
  | false => (go_wp2_with (fail)); go_ret; exact ⟨rfl, HBE.out⟩
  | true =>
  have HSM := Lib.hid (HR2.out rfl)
  clear HR2
  go_wp2_with (fail)
  clear z0 z1 z2 z3 z4 z5 z6 z7 z8 z9 z10 z11 z12 HBE
  refine (HPT.out _ hb5).mono ?_
  rintro e w6 ⟨rfl, hb6⟩
  clear hb5 HPT
  obtain ⟨z0, z1, z2, z3, z4, z5, z6, z7, z8, z9, z10, z11, z12⟩ := HSB.out w6 hb6
  by_cases hpn : 60 < pn
  · have hd : decide (60 < pn) = true := decide_eq_true hpn
    have HBE := Lib.hid (bel_trans HB.out hb6)
    go_wp2_with (fail)
    go_ret
    exact ⟨rfl, HBE.out⟩
  have hd : decide (60 < pn) = false := decide_eq_false hpn
  go_wp2_with (fail)
  clear z0 z1 z2 z3 z4 z5 z6 z7 z8 z9 z10 z11 z12 hd hpn
  refine (HCA.out _ hb6 HSM.out).mono ?_
  rintro e w7 ⟨A7, c7, B7, d7, rfl, hc7, hC7, hl7, hR7, hb7⟩
  have HT7 := Lib.hid (And.intro (And.intro hc7 hC7) (And.intro hl7 hR7))
  have HB7 := bel_alloc (bel_trans hb6 hb7) (.cells #[.int .i64 TT.f0, .string TT.f1, .string TT.f2, .int .i64 TT.f3, .slice A7 TT.f4.length c7] 29)
  have HX7 := Lib.hid (blk_new w7 (.cells #[.int .i64 TT.f0, .string TT.f1, .string TT.f2, .int .i64 TT.f3, .slice A7 TT.f4.length c7] 29))
  have HK7 := Lib.hid (bel_alloc (Below.refl w7.heap.size w7) (.cells #[.int .i64 TT.f0, .string TT.f1, .string TT.f2, .int .i64 TT.f3, .slice A7 TT.f4.length c7] 29))
  clear hb6 hb7 hc7 hC7 hl7 hR7 HCA
  obtain ⟨z0, z1, z2, z3, z4, z5, z6, z7, z8, z9, z10, z11, z12⟩ := HSB.out _ HB7
  go_wp2_with (fail)
  clear z0 z1 z2 z3 z4 z5 z6 z7 z8 z9 z10 z11 z12
  refine (HCR.out _ HB7 HSM.out).mono ?_
  rintro e w8 ⟨A8, c8, B8, d8, rfl, hc8, hC8, hl8, hR8, hb8⟩
  have HT8 := Lib.hid (And.intro (And.intro hc8 hC8) (And.intro hl8 hR8))
  have HK8 := Lib.hid (bel_trans HK7.out hb8)
  have HX8 := Lib.hid (blk_later hb8 HX7.out)
  have HB8 := Lib.hid (bel_alloc (bel_trans HB7 hb8) (.cells #[.int .i64 TT.f0, .string TT.f1, .string TT.f2, .int .i64 TT.f3, .slice A8 TT.f4.length c8] 29))
  have HL8 := Lib.hid (bel_alloc (Below.refl w8.heap.size w8) (.cells #[.int .i64 TT.f0, .string TT.f1, .string TT.f2, .int .i64 TT.f3, .slice A8 TT.f4.length c8] 29))
  have HY8 := Lib.hid (blk_new w8 (.cells #[.int .i64 TT.f0, .string TT.f1, .string TT.f2, .int .i64 TT.f3, .slice A8 TT.f4.length c8] 29))
  clear HB7 hb8 hc8 hC8 hl8 hR8 HCR HX7 HK7
  obtain ⟨x0, x1, x2, x3, x4⟩ := ty_cells (blk_later HL8.out HX8.out)
  obtain ⟨y0, y1, y2, y3, y4⟩ := ty_cells HY8.out
  go_wp2_with (fail)
  clear x0 x1 x2 x3 x4 y0 y1 y2 y3 y4
  refine (equal_self (tyAll TT) A7 A8 c7 c8 _ (Kd.C_below HT7.out.1.2 (bel_trans HK8.out HL8.out)) HT7.out.1.1 (Kd.C_below HT8.out.1.2 HL8.out) HT8.out.1.1).mono ?_
  rintro e w9 ⟨rfl, hb9⟩
  have HB9 := Lib.hid (bel_trans HB8.out hb9)
  have HL9 := Lib.hid (bel_trans HL8.out hb9)
  clear hb9
  go_wp2_with (fail)
  refine (same12_any LL B7 B8 d7 d8 _ HLH.out (HT7.out.2.2.later (bel_trans HK8.out HL9.out)) HT7.out.2.1 (HT8.out.2.2.later HL9.out) HT8.out.2.1).mono ?_
  rintro e w10 ⟨rfl, hb10⟩
  have HBF := Lib.hid (bel_trans HB.out (bel_trans HB9.out hb10))
  clear hb10
  go_wp2_with (fail)
  go_ret
  exact ⟨rfl, HBF.out⟩
end Go.Proofs.Ytbhagjhhgmmcgaa
