/- InferPlain: a call without bounds is right just if all fits, and its type is the result. -/
import Derived.Test.YtbhagjhhgmmcgaaTyVA
import Derived.Test.YtbhagjhhgmmcgaaTyRE
namespace Go.Proofs.Ytbhagjhhgmmcgaa
open Go.RowKit PRef Go.Proofs.YtbhagjhhgmmcgaaW.PrintWords
set_option linter.unusedVariables false
set_option linter.unusedSimpArgs false

def okP (W : List Ifc) (B ps qs : List Ty) (k : Nat) : Bool := decide (qs.length = ps.length) && (List.range k).all fun i => assignP W B (qs.getD i zTy) (ps.getD i zTy)
theorem okP_zero (W : List Ifc) (B ps qs : List Ty) : okP W B ps qs 0 = decide (qs.length = ps.length) := by simp [okP]
theorem okP_succ (W : List Ifc) (B ps qs : List Ty) (k : Nat) : okP W B ps qs (k + 1) = (okP W B ps qs k && assignP W B (qs.getD k zTy) (ps.getD k zTy)) := by
  unfold okP
  rw [List.range_succ, List.all_append]
  simp [Bool.and_assoc]
def bare (f : Fun) : Fun := ⟨f.f0, [], f.f2, f.f3⟩
def bareA (b : FnA) : FnA := ⟨none, 0, b.A2, b.c2, b.A7, b.c7⟩
theorem callT_bare (f : Fun) (args : List Ty) : callT (bare f) args = f.f3 := by
  unfold callT bare
  show substT (unifyN f.f2 args 0) f.f3 = f.f3
  rw [unifyN_zero, substT_nil (tyAll _)]
theorem callL_bare (W : List Ifc) (B : List Ty) (f : Fun) (args : List Ty) : callL W B (bare f) args = callA args.length f.f2.length ++ callP W B [] f.f2 args (min f.f2.length args.length) := by
  unfold callL bare
  show callA args.length f.f2.length ++ callB W B (unifyN f.f2 args 0) [] (unifyN f.f2 args 0).length ++ callP W B (unifyN f.f2 args 0) f.f2 args (min f.f2.length args.length) = _
  rw [unifyN_zero]
  simp [callB]
theorem callP_none (W : List Ifc) (B ps qs : List Ty) : ∀ k : Nat, (callP W B [] ps qs k).length = 0 ↔ ((List.range k).all fun i => assignP W B (qs.getD i zTy) (ps.getD i zTy)) = true
  | 0 => by simp [callP]
  | k + 1 => by
    rw [callP_succ, List.length_append, List.range_succ, List.all_append, substT_nil (tyAll _)]
    have ih := callP_none W B ps qs k
    rw [Nat.add_eq_zero_iff, ih, Bool.and_eq_true]
    refine and_congr Iff.rfl ?_
    rw [List.all_cons, List.all_nil, Bool.and_true]
    cases assignP W B (qs.getD k zTy) (ps.getD k zTy) <;> simp
theorem plain_law (W : List Ifc) (B : List Ty) (f : Fun) (args : List Ty) : okP W B f.f2 args (min f.f2.length args.length) = ((callL W B (bare f) args).length == 0) := by
  rw [callL_bare, Bool.eq_iff_iff, beq_iff_eq, List.length_append, Nat.add_eq_zero_iff, callP_none]
  unfold okP
  rw [Bool.and_eq_true, decide_eq_true_iff]
  unfold callA
  by_cases h : args.length = f.f2.length <;> simp [h]
theorem call_less {w w' : World} {T : Ty} {L : List Wr} {e : Ending} (h : ∃ A' c' B' d', e = .returned (.tuple #[tyV T A' c', .slice B' L.length d']) ∧ T.f4.length ≤ c' ∧ Kd.C kTy w' A' T.f4.length T.f4 ∧ L.length ≤ d' ∧ RdW w' B' L ∧ Below w.heap.size w w') : ∃ A' c' B' d', e = .returned (.tuple #[tyV T A' c', .slice B' L.length d']) ∧ T.f4.length ≤ c' ∧ Kd.C kTy w' A' T.f4.length T.f4 ∧ Below w.heap.size w w' := by
  obtain ⟨A', c', B', d', h1, h2, h3, h4, h5, h6⟩ := h
  exact ⟨A', c', B', d', h1, h2, h3, h6⟩
theorem bareC {b : FnA} {f : Fun} {w : World} (h : FnC b f w) : FnC (bareA b) (bare f) w := ⟨C_nil' _ _ _, Nat.le_refl 0, h.p_, h.pc, h.r_, h.rc⟩

set_option maxRecDepth 100000 in
set_option maxHeartbeats 8000000 in
theorem inferPlain_any (s : Scp) (a : ScA) (f : Fun) (b : FnA) (AA : Option Addr) (args : List Ty) (ca : Nat) (w : World) (ok : WOk s.W ∧ (∀ t ∈ s.B, TyOk t) ∧ s.W.length * 64 ≤ 140737488351232) (hS : ScpC a s w) (okf : FunW f) (hF : FnC b f w) (lA : args.length ≤ ca) (h72 : args.length * 72 ≤ 140737488351232) (ha : ∀ x ∈ args, TyW x) (hA : Kd.C kTy w AA args.length args) :
    Calls Try.prog 12 #[scV a s.W s.B, .agg (fnCs b f), .slice AA args.length ca] w fun e w' => e = .returned (.bool true) ∧ Below w.heap.size w w' := by
  have HB := Lib.hid (bel_alloc (bel_alloc (Below.refl w.heap.size w) (.cells #[.slice a.AW s.W.length a.cW, .slice a.AI a.nI a.cI, .slice a.AN a.nN a.cN, .slice a.AB s.B.length a.cB, .slice a.AV a.nV a.cV] 27)) (.cells #[.string f.f0, .slice b.A1 f.f1.length b.c1, .slice b.A2 f.f2.length b.c2, .int .i64 f.f3.f0, .string f.f3.f1, .string f.f3.f2, .int .i64 f.f3.f3, .slice b.A7 f.f3.f4.length b.c7] 58))
  have HS := Lib.hid (blk_alloc (blk_new w (.cells #[.slice a.AW s.W.length a.cW, .slice a.AI a.nI a.cI, .slice a.AN a.nN a.cN, .slice a.AB s.B.length a.cB, .slice a.AV a.nV a.cV] 27)) (.cells #[.string f.f0, .slice b.A1 f.f1.length b.c1, .slice b.A2 f.f2.length b.c2, .int .i64 f.f3.f0, .string f.f3.f1, .string f.f3.f2, .int .i64 f.f3.f3, .slice b.A7 f.f3.f4.length b.c7] 58))
  have HF := Lib.hid ((show ((w.alloc (.cells #[.slice a.AW s.W.length a.cW, .slice a.AI a.nI a.cI, .slice a.AN a.nN a.cN, .slice a.AB s.B.length a.cB, .slice a.AV a.nV a.cV] 27)).alloc (.cells #[.string f.f0, .slice b.A1 f.f1.length b.c1, .slice b.A2 f.f2.length b.c2, .int .i64 f.f3.f0, .string f.f3.f1, .string f.f3.f2, .int .i64 f.f3.f3, .slice b.A7 f.f3.f4.length b.c7] 58)).heap[w.heap.size + 1]? = some (.cells #[.string f.f0, .slice b.A1 f.f1.length b.c1, .slice b.A2 f.f2.length b.c2, .int .i64 f.f3.f0, .string f.f3.f1, .string f.f3.f2, .int .i64 f.f3.f3, .slice b.A7 f.f3.f4.length b.c7] 58 (0, 0)) from blk_newN _ _ _ (by simp)))
  have HZW := Lib.hid (show w.heap.size + 1 < ((w.alloc (.cells #[.slice a.AW s.W.length a.cW, .slice a.AI a.nI a.cI, .slice a.AN a.nN a.cN, .slice a.AB s.B.length a.cB, .slice a.AV a.nV a.cV] 27)).alloc (.cells #[.string f.f0, .slice b.A1 f.f1.length b.c1, .slice b.A2 f.f2.length b.c2, .int .i64 f.f3.f0, .string f.f3.f1, .string f.f3.f2, .int .i64 f.f3.f3, .slice b.A7 f.f3.f4.length b.c7] 58)).heap.size by simp)
  generalize hW0 : ((w.alloc (.cells #[.slice a.AW s.W.length a.cW, .slice a.AI a.nI a.cI, .slice a.AN a.nN a.cN, .slice a.AB s.B.length a.cB, .slice a.AV a.nV a.cV] 27)).alloc (.cells #[.string f.f0, .slice b.A1 f.f1.length b.c1, .slice b.A2 f.f2.length b.c2, .int .i64 f.f3.f0, .string f.f3.f1, .string f.f3.f2, .int .i64 f.f3.f3, .slice b.A7 f.f3.f4.length b.c7] 58)) = W0 at *
  have hms : args.length ≤ 9000000000000000000 := by omega
  have hns : f.f2.length ≤ 9000000000000000000 := by have := okf.2.2.1; omega
  have HSA := Lib.hid (fun (W : World) (hb : Below W0.heap.size W0 W) => (small12_any args AA ca W (Kd.C_below hA (bel_trans HB.out hb)) lA).mono (fun e w' h => (⟨h.choose, h.choose_spec.1, bel_trans hb h.choose_spec.2.2⟩ : ∃ r : Bool, e = .returned (.bool r) ∧ Below W0.heap.size W0 w')))
  have HSP := Lib.hid (fun (W : World) (hb : Below W0.heap.size W0 W) => (small12_any f.f2 b.A2 b.c2 W (Kd.C_below hF.p_ (bel_trans HB.out hb)) hF.pc).mono (fun e w' h => (⟨h.choose, h.choose_spec.1, h.choose_spec.2.1, bel_trans hb h.choose_spec.2.2⟩ : ∃ r : Bool, e = .returned (.bool r) ∧ (r = true → SmallL f.f2) ∧ Below W0.heap.size W0 w')))
  have HLT := Lib.hid (fun (W : World) (hb : Below W0.heap.size W0 W) => (little_any a s W (hS.c.later (bel_trans HB.out hb))).mono (fun e w' h => (⟨h.choose, h.choose_spec.1, bel_trans hb h.choose_spec.2⟩ : ∃ r : Bool, e = .returned (.bool r) ∧ Below W0.heap.size W0 w')))
  have HPT := Lib.hid (fun (W : World) (hb : Below W0.heap.size W0 W) => (parts12_any (tyAll f.f3) b.A7 b.c7 0 W (by omega) (by omega) (Kd.C_below hF.r_ (bel_trans HB.out hb)) hF.rc).mono (fun e w' h => (⟨h.1, bel_trans hb h.2⟩ : e = .returned (.int .i64 (partsT f.f3 0)) ∧ Below W0.heap.size W0 w')))
  have HCA := Lib.hid (fun (W : World) (hb : Below w.heap.size w W) (hp : SmallL f.f2) => (call_show a s.W s.B (bare f) (bareA b) args AA ca W (hS.c.later hb) ok.1 (bareC (hF.later hb)) (Kd.C_below hA hb) lA okf.2.2.2.1 ha okf.2.2.2.2.ok hp).mono (fun e w' h => call_less h))
  have HAS := Lib.hid (fun (W : World) (hb : Below w.heap.size w W) (t i : Ty) (A C : Option Addr) (c d : Nat) (hA : Kd.C kTy w A t.f4.length t.f4) (hc : t.f4.length ≤ c) (hC : Kd.C kTy w C i.f4.length i.f4) (hd : i.f4.length ≤ d) => assign_any a s.W s.B t i A C c d W (hS.c.later hb) ok.1 (Kd.C_below hA hb) hc (Kd.C_below hC hb) hd)
  have HPL := Lib.hid (plain_law s.W s.B f args)
  rw [callT_bare] at HCA
  have HRR := Lib.hid (And.intro hF.r_ hF.rc)
  have HPP := Lib.hid (And.intro hF.p_ hF.pc)
  have HAA := Lib.hid (And.intro hA lA)
  have HOK := Lib.hid (okP_zero s.W s.B f.f2 args)
  have HOS := Lib.hid (okP_succ s.W s.B f.f2 args)
  have HLN := Lib.hid (And.intro hms hns)
  generalize (callL s.W s.B (bare f) args).length = nL at *
  generalize partsT f.f3 0 = pn at *
  generalize okP s.W s.B f.f2 args = OK at *
  simp only [tyV, scCs, fnCs, bare, bareA, List.length_nil] at HCA
  simp only [tyV, scV] at HAS
  clear hS ok okf hF lA h72 ha hA hms hns
  simp only [scV, fnCs]
  have HSB := Lib.hid (fun (W : World) (hb : Below W0.heap.size W0 W) => (show W.cell? ⟨w.heap.size, 0, none⟩ = some (.slice a.AW s.W.length a.cW) ∧ W.cell? ⟨w.heap.size, 1, none⟩ = some (.slice a.AI a.nI a.cI) ∧ W.cell? ⟨w.heap.size, 2, none⟩ = some (.slice a.AN a.nN a.cN) ∧ W.cell? ⟨w.heap.size, 3, none⟩ = some (.slice a.AB s.B.length a.cB) ∧ W.cell? ⟨w.heap.size, 4, none⟩ = some (.slice a.AV a.nV a.cV) ∧ W.cell? ⟨w.heap.size + 1, 0, none⟩ = some (.string f.f0) ∧ W.cell? ⟨w.heap.size + 1, 1, none⟩ = some (.slice b.A1 f.f1.length b.c1) ∧ W.cell? ⟨w.heap.size + 1, 2, none⟩ = some (.slice b.A2 f.f2.length b.c2) ∧ W.cell? ⟨w.heap.size + 1, 3, none⟩ = some (.int .i64 f.f3.f0) ∧ W.cell? ⟨w.heap.size + 1, 4, none⟩ = some (.string f.f3.f1) ∧ W.cell? ⟨w.heap.size + 1, 5, none⟩ = some (.string f.f3.f2) ∧ W.cell? ⟨w.heap.size + 1, 6, none⟩ = some (.int .i64 f.f3.f3) ∧ W.cell? ⟨w.heap.size + 1, 7, none⟩ = some (.slice b.A7 f.f3.f4.length b.c7) from ⟨(blk_cell (blk_later hb HS.out) 0).trans rfl, (blk_cell (blk_later hb HS.out) 1).trans rfl, (blk_cell (blk_later hb HS.out) 2).trans rfl, (blk_cell (blk_later hb HS.out) 3).trans rfl, (blk_cell (blk_later hb HS.out) 4).trans rfl, (blk_cell (blk_later hb HF.out) 0).trans rfl, (blk_cell (blk_later hb HF.out) 1).trans rfl, (blk_cell (blk_later hb HF.out) 2).trans rfl, (blk_cell (blk_later hb HF.out) 3).trans rfl, (blk_cell (blk_later hb HF.out) 4).trans rfl, (blk_cell (blk_later hb HF.out) 5).trans rfl, (blk_cell (blk_later hb HF.out) 6).trans rfl, (blk_cell (blk_later hb HF.out) 7).trans rfl⟩))
  go_enter Try.func12, Try.ntmps12
  go_wp2_with (fail)
  clear hW0
  refine (awake12_any _).mono ?_
  rintro e w1 ⟨rfl, hb1⟩
  go_wp2_with (fail)
  refine (HSA.out _ hb1).mono ?_
  rintro e w2 ⟨r1, rfl, hb2⟩
  clear hb1 HSA
  obtain ⟨z0, z1, z2, z3, z4, z5, z6, z7, z8, z9, z10, z11, z12⟩ := HSB.out w2 hb2
  go_wp2_with (fail)
  clear z0 z1 z2 z3 z4 z5 z6 z7 z8 z9 z10 z11 z12
  refine (HSP.out _ hb2).mono ?_
  rintro e w3 ⟨r2, rfl, hr2, hb3⟩
  have HR2 := Lib.hid hr2
  clear hb2 HSP hr2
  obtain ⟨z0, z1, z2, z3, z4, z5, z6, z7, z8, z9, z10, z11, z12⟩ := HSB.out w3 hb3
  go_wp2_with (fail)
  clear z0 z1 z2 z3 z4 z5 z6 z7 z8 z9 z10 z11 z12
  refine (HLT.out _ hb3).mono ?_
  rintro e w5 ⟨r4, rfl, hb5⟩
  clear hb3 HLT
  have HBE := Lib.hid (bel_trans HB.out hb5)
  obtain ⟨z0, z1, z2, z3, z4, z5, z6, z7, z8, z9, z10, z11, z12⟩ := HSB.out w5 hb5
  cases r1 with
  | false => (go_wp2_with (fail)); go_ret; exact ⟨rfl, HBE.out⟩
  | true =>
  cases r2 with
  | false => (go_wp2_with (fail)); go_ret; exact ⟨rfl, HBE.out⟩
  | true =>
  cases r4 with
  | false => (go_wp2_with (fail)); go_ret; exact ⟨rfl, HBE.out⟩
  | true =>
  have HSM := Lib.hid (HR2.out rfl)
  clear HR2
  go_wp2_with (fail)
  clear z0 z1 z2 z3 z4 z5 z6 z7 z8 z9 z10 z11 z12 HBE
  refine (HPT.out _ hb5).mono ?_
  rintro e w6 ⟨rfl, hb6⟩
  clear hb5 HPT
  have HBE := Lib.hid (bel_trans HB.out hb6)
  obtain ⟨z0, z1, z2, z3, z4, z5, z6, z7, z8, z9, z10, z11, z12⟩ := HSB.out w6 hb6
  by_cases hpn : 60 < pn
  · have hd : decide (60 < pn) = true := decide_eq_true hpn
    go_wp2_with (fail)
    go_ret
    exact ⟨rfl, HBE.out⟩
  have hd : decide (60 < pn) = false := decide_eq_false hpn
  have hz6 : w.heap.size + 1 < w6.heap.size := Nat.lt_of_lt_of_le HZW.out hb6.size
  have HS2 := Lib.hid ((Below.heap_setCell w6 ⟨w.heap.size + 1, 1, none⟩ (.slice none 0 0) w.heap.size (by simp)).trans (blk_later hb6 HS.out))
  have HF2 := Lib.hid (blk_set (blk_later hb6 HF.out) 1 (.slice none 0 0))
  have HB2 := Lib.hid (Below.setCell HBE.out (show w.heap.size ≤ (⟨w.heap.size + 1, 1, none⟩ : Addr).block by simp) (.slice none 0 0))
  have fz := blk_free (blk_later hb6 HF.out) 1
  go_upto_region 8 with (fail)
  clear fz
  clear z0 z1 z2 z3 z4 z5 z6 z7 z8 z9 z10 z11 z12 hd hpn
  generalize w6.setCell ⟨w.heap.size + 1, 1, none⟩ (.slice none 0 0) = W7 at *
  have HSB2 := Lib.hid (fun (W : World) (hb : Below W7.heap.size W7 W) => (show W.cell? ⟨w.heap.size, 0, none⟩ = some (.slice a.AW s.W.length a.cW) ∧ W.cell? ⟨w.heap.size, 1, none⟩ = some (.slice a.AI a.nI a.cI) ∧ W.cell? ⟨w.heap.size, 2, none⟩ = some (.slice a.AN a.nN a.cN) ∧ W.cell? ⟨w.heap.size, 3, none⟩ = some (.slice a.AB s.B.length a.cB) ∧ W.cell? ⟨w.heap.size, 4, none⟩ = some (.slice a.AV a.nV a.cV) ∧ W.cell? ⟨w.heap.size + 1, 0, none⟩ = some (.string f.f0) ∧ W.cell? ⟨w.heap.size + 1, 1, none⟩ = some (.slice none 0 0) ∧ W.cell? ⟨w.heap.size + 1, 2, none⟩ = some (.slice b.A2 f.f2.length b.c2) ∧ W.cell? ⟨w.heap.size + 1, 3, none⟩ = some (.int .i64 f.f3.f0) ∧ W.cell? ⟨w.heap.size + 1, 4, none⟩ = some (.string f.f3.f1) ∧ W.cell? ⟨w.heap.size + 1, 5, none⟩ = some (.string f.f3.f2) ∧ W.cell? ⟨w.heap.size + 1, 6, none⟩ = some (.int .i64 f.f3.f3) ∧ W.cell? ⟨w.heap.size + 1, 7, none⟩ = some (.slice b.A7 f.f3.f4.length b.c7) from ⟨(blk_cell (blk_later hb HS2.out) 0).trans rfl, (blk_cell (blk_later hb HS2.out) 1).trans rfl, (blk_cell (blk_later hb HS2.out) 2).trans rfl, (blk_cell (blk_later hb HS2.out) 3).trans rfl, (blk_cell (blk_later hb HS2.out) 4).trans rfl, (blk_cell (blk_later hb HF2.out) 0).trans rfl, (blk_cell (blk_later hb HF2.out) 1).trans rfl, (blk_cell (blk_later hb HF2.out) 2).trans rfl, (blk_cell (blk_later hb HF2.out) 3).trans rfl, (blk_cell (blk_later hb HF2.out) 4).trans rfl, (blk_cell (blk_later hb HF2.out) 5).trans rfl, (blk_cell (blk_later hb HF2.out) 6).trans rfl, (blk_cell (blk_later hb HF2.out) 7).trans rfl⟩))
  clear HSB HS HF HBE
  obtain ⟨z0, z1, z2, z3, z4, z5, z6, z7, z8, z9, z10, z11, z12⟩ := HSB2.out _ (Below.refl _ _)
  go_wp2_with (fail)
  clear z0 z1 z2 z3 z4 z5 z6 z7 z8 z9 z10 z11 z12
  refine (HCA.out _ HB2.out HSM.out).mono ?_
  rintro e w8 ⟨A7, c7, B7, d7, rfl, hc7, hC7, hb7⟩
  have HC8 := Lib.hid (And.intro hc7 (Kd.C_below hC7 (bel_alloc (Below.refl w8.heap.size w8) (.cells #[.int .i64 f.f3.f0, .string f.f3.f1, .string f.f3.f2, .int .i64 f.f3.f3, .slice A7 f.f3.f4.length c7] 29))))
  have HB7 := Lib.hid (bel_alloc hb7 (.cells #[.int .i64 f.f3.f0, .string f.f3.f1, .string f.f3.f2, .int .i64 f.f3.f3, .slice A7 f.f3.f4.length c7] 29))
  have HX7 := Lib.hid (blk_new w8 (.cells #[.int .i64 f.f3.f0, .string f.f3.f1, .string f.f3.f2, .int .i64 f.f3.f3, .slice A7 f.f3.f4.length c7] 29))
  clear hb7 hc7 hC7 HCA
  obtain ⟨b0, hb0⟩ : ∃ b0, decide (args.length = f.f2.length) = b0 := ⟨_, rfl⟩
  have hb1 : (args.length == f.f2.length) = b0 := by rw [← hb0, Bool.eq_iff_iff]; simp
  have hb2 : ((args.length : Int) == (f.f2.length : Int)) = b0 := by rw [← hb0, Bool.eq_iff_iff]; simp; omega
  have HO0 := Lib.hid (HOK.out.trans hb0)
  clear hb0 HOK
  obtain ⟨z0, z1, z2, z3, z4, z5, z6, z7, z8, z9, z10, z11, z12⟩ := HSB2.out _ HB7.out
  go_wp2_with (fail)
  clear z0 z1 z2 z3 z4 z5 z6 z7 z8 z9 z10 z11 z12 hb1 hb2
  generalize w8.alloc (.cells #[.int .i64 f.f3.f0, .string f.f3.f1, .string f.f3.f2, .int .i64 f.f3.f3, .slice A7 f.f3.f4.length c7] 29) = W8 at *
  generalize w8.heap.size = g8 at *
  go_loopw [13, 14] (fun vr vi wr => ∃ k : Nat, vi = .int .i64 k ∧ vr = .bool (OK k) ∧ Hid (k ≤ args.length ∧ k ≤ f.f2.length) ∧ Hid (Below W8.heap.size W8 wr)) (fun _ vi _ => args.length - (intOf vi).toNat)
  case atStart => exact ⟨0, rfl, by rw [HO0.out], Lib.hid ⟨Nat.zero_le _, Nat.zero_le _⟩, Lib.hid (Below.refl _ _)⟩
  case round =>
    obtain ⟨k, rfl, rfl, HK, HBR⟩ := hrel
    have HB7R := Lib.hid (bel_trans HB7.out HBR.out)
    have HBW := Lib.hid (bel_trans HB2.out HB7R.out)
    obtain ⟨z0, z1, z2, z3, z4, z5, z6, z7, z8, z9, z10, z11, z12⟩ := HSB2.out _ HB7R.out
    by_cases hc : k < args.length ∧ k < f.f2.length
    · obtain ⟨h1, h2⟩ := hc
      obtain ⟨ay, Y4, e4, hAy, y0, y1, y2, y3, y4, ly, gy⟩ := at_T29 HAA.out.1 (k : Int) (by omega) (by omega)
      obtain ⟨ax, X4, g4, hAx, x0, x1, x2, x3, x4, lx, gx⟩ := at_T29 HPP.out.1 (k : Int) (by omega) (by omega)
      rw [rd_getD] at y0 y1 y2 y3 y4 ly gy x0 x1 x2 x3 x4 lx gx
      rw [Int.toNat_natCast] at y0 y1 y2 y3 y4 x0 x1 x2 x3 x4
      have HNX := Lib.hid (HOS.out k)
      replace y0 := cell_later HBW.out y0
      replace y1 := cell_later HBW.out y1
      replace y2 := cell_later HBW.out y2
      replace y3 := cell_later HBW.out y3
      replace y4 := cell_later HBW.out y4
      replace x0 := cell_later HBW.out x0
      replace x1 := cell_later HBW.out x1
      replace x2 := cell_later HBW.out x2
      replace x3 := cell_later HBW.out x3
      replace x4 := cell_later HBW.out x4
      generalize args.getD k zTy = y at *
      generalize f.f2.getD k zTy = x at *
      have HA1 := Lib.hid (HAS.out _ (bel_drew HBW.out) y x Y4 X4 e4 g4 gy ly gx lx)
      simp only [hAy, hAx] at *
      have HLT := Lib.hid (And.intro h1 h2)
      have hbd : args.length ≤ 9000000000000000000 := HLN.out.1
      have j0 : 0 ≤ (k : Int) := by omega
      have j1 : (k : Int) < args.length := by omega
      have j2 : (k : Int) < f.f2.length := by omega
      clear ly gy lx gx hAx hAy
      generalize assignP s.W s.B y x = asg at *
      cases hv : OK k with
      | true =>
        rw [hv, Bool.true_and] at HNX
        clear hv
        go_wp2_with (fail)
        go_still_tail 10, (by kernel_rfl)
        change wpList _ _ _ _ _ wr.drew
        go_wp2_with (fail)
        refine HA1.out.mono ?_
        rintro e w9 ⟨rfl, hb9⟩
        have HBR2 := Lib.hid (bel_trans (bel_drew HBR.out) hb9)
        clear hb9
        go_wp2_with (fail)
        go_roundw
        case rel => exact ⟨k + 1, by go_num, by rw [HNX.out], Lib.hid ⟨HLT.out.1, HLT.out.2⟩, HBR2⟩
        case measure => have := HLT.out.1; simp [intOf]; omega
      | false =>
        rw [hv, Bool.false_and] at HNX
        clear hv
        go_wp2_with (fail)
        go_still_tail 10, (by kernel_rfl)
        change wpList _ _ _ _ _ wr.drew
        go_wp2_with (fail)
        refine HA1.out.mono ?_
        rintro e w9 ⟨rfl, hb9⟩
        have HBR2 := Lib.hid (bel_trans (bel_drew HBR.out) hb9)
        clear hb9
        go_wp2_with (fail)
        go_roundw
        case rel => exact ⟨k + 1, by go_num, by rw [HNX.out], Lib.hid ⟨HLT.out.1, HLT.out.2⟩, HBR2⟩
        case measure => have := HLT.out.1; simp [intOf]; omega
    · have hk : k = min f.f2.length args.length := by have := HK.out; omega
      have HE := Lib.hid (show OK k = (nL == 0) by rw [hk]; exact HPL.out)
      clear hk
      have HEQ := Lib.hid (equal_self (tyAll f.f3) A7 b.A7 c7 b.c7 wr (Kd.C_below HC8.out.2 HBR.out) HC8.out.1 (Kd.C_below HRR.out.1 HBW.out) HRR.out.2)
      obtain ⟨x0, x1, x2, x3, x4⟩ := ty_cells (blk_later HBR.out HX7.out)
      have HBE := HBW
      by_cases h1 : k < args.length
      · have d2 : decide (k < f.f2.length) = false := decide_eq_false (by omega)
        have d3 : decide ((k : Int) < (f.f2.length : Int)) = false := decide_eq_false (by omega)
        clear hc
        cases hv : OK k with
        | true =>
          rw [hv] at HE
          have e1 : (nL == 0) = true := HE.out.symm
          have e2 : ((nL : Int) == 0) = true := by have := HE.out; simp at this ⊢; omega
          go_wp2_with (fail)
          refine HEQ.out.mono ?_
          rintro e w9 ⟨rfl, hb9⟩
          have HBF := Lib.hid (bel_trans HBE.out hb9)
          clear hb9
          go_wp2_with (fail)
          go_ret
          exact ⟨by simp, HBF.out⟩
        | false =>
          rw [hv] at HE
          have e1 : (nL == 0) = false := HE.out.symm
          have e2 : ((nL : Int) == 0) = false := by have := HE.out; simp at this ⊢; omega
          go_wp2_with (fail)
          refine HEQ.out.mono ?_
          rintro e w9 ⟨rfl, hb9⟩
          have HBF := Lib.hid (bel_trans HBE.out hb9)
          clear hb9
          go_wp2_with (fail)
          go_ret
          exact ⟨by simp, HBF.out⟩
      · have d2 : decide (k < args.length) = false := decide_eq_false h1
        have d3 : decide ((k : Int) < (args.length : Int)) = false := decide_eq_false (by omega)
        clear hc h1
        cases hv : OK k with
        | true =>
          rw [hv] at HE
          have e1 : (nL == 0) = true := HE.out.symm
          have e2 : ((nL : Int) == 0) = true := by have := HE.out; simp at this ⊢; omega
          go_wp2_with (fail)
          refine HEQ.out.mono ?_
          rintro e w9 ⟨rfl, hb9⟩
          have HBF := Lib.hid (bel_trans HBE.out hb9)
          clear hb9
          go_wp2_with (fail)
          go_ret
          exact ⟨by simp, HBF.out⟩
        | false =>
          rw [hv] at HE
          have e1 : (nL == 0) = false := HE.out.symm
          have e2 : ((nL : Int) == 0) = false := by have := HE.out; simp at this ⊢; omega
          go_wp2_with (fail)
          refine HEQ.out.mono ?_
          rintro e w9 ⟨rfl, hb9⟩
          have HBF := Lib.hid (bel_trans HBE.out hb9)
          clear hb9
          go_wp2_with (fail)
          go_ret
          exact ⟨by simp, HBF.out⟩
end Go.Proofs.Ytbhagjhhgmmcgaa
