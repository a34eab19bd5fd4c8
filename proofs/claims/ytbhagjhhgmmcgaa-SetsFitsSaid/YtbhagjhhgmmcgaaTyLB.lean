/- SetsFits: whether two types are alike, meet, and fit is the document's. -/
import Derived.Test.YtbhagjhhgmmcgaaTyLA
import Derived.Deep.RegionHeld3
namespace Go.Proofs.Ytbhagjhhgmmcgaa
open Go.RowKit PRef Go.Proofs.YtbhagjhhgmmcgaaW.PrintWords
set_option linter.unusedVariables false

set_option maxRecDepth 100000 in
set_option maxHeartbeats 8000000 in
theorem fits_any (s : Scp) (a : ScA) (t : Ty) (A : Option Addr) (c : Nat) (u : Ty) (B : Option Addr) (d : Nat) (w : World) (ok : WOk s.W ∧ (∀ t ∈ s.B, TyOk t) ∧ s.W.length * 64 ≤ 140737488351232) (hS : ScpC a s w) (ht : TyOk t) (hc : t.f4.length ≤ c) (hA : Kd.C kTy w A t.f4.length t.f4) (hu : TyOk u) (hd : u.f4.length ≤ d) (hB : Kd.C kTy w B u.f4.length u.f4) :
    Calls Try.prog 4 #[scV a s.W s.B, tyV t A c, tyV u B d] w fun e w' => e = .returned (.bool true) ∧ Below w.heap.size w w' := by
  have HB := Lib.hid (bel_alloc (bel_alloc (bel_alloc (Below.refl w.heap.size w) (.cells #[.slice a.AW s.W.length a.cW, .slice a.AI a.nI a.cI, .slice a.AN a.nN a.cN, .slice a.AB s.B.length a.cB, .slice a.AV a.nV a.cV] 27)) (.cells #[.int .i64 t.f0, .string t.f1, .string t.f2, .int .i64 t.f3, .slice A t.f4.length c] 29)) (.cells #[.int .i64 u.f0, .string u.f1, .string u.f2, .int .i64 u.f3, .slice B u.f4.length d] 29))
  have HS := Lib.hid (blk_alloc (blk_alloc (blk_new w (.cells #[.slice a.AW s.W.length a.cW, .slice a.AI a.nI a.cI, .slice a.AN a.nN a.cN, .slice a.AB s.B.length a.cB, .slice a.AV a.nV a.cV] 27)) (.cells #[.int .i64 t.f0, .string t.f1, .string t.f2, .int .i64 t.f3, .slice A t.f4.length c] 29)) (.cells #[.int .i64 u.f0, .string u.f1, .string u.f2, .int .i64 u.f3, .slice B u.f4.length d] 29))
  have HT := Lib.hid (blk_alloc ((show ((w.alloc (.cells #[.slice a.AW s.W.length a.cW, .slice a.AI a.nI a.cI, .slice a.AN a.nN a.cN, .slice a.AB s.B.length a.cB, .slice a.AV a.nV a.cV] 27)).alloc (.cells #[.int .i64 t.f0, .string t.f1, .string t.f2, .int .i64 t.f3, .slice A t.f4.length c] 29)).heap[w.heap.size + 1]? = some (.cells #[.int .i64 t.f0, .string t.f1, .string t.f2, .int .i64 t.f3, .slice A t.f4.length c] 29 (0, 0)) from blk_newN _ _ _ (by simp))) (.cells #[.int .i64 u.f0, .string u.f1, .string u.f2, .int .i64 u.f3, .slice B u.f4.length d] 29))
  have HU := Lib.hid ((show (((w.alloc (.cells #[.slice a.AW s.W.length a.cW, .slice a.AI a.nI a.cI, .slice a.AN a.nN a.cN, .slice a.AB s.B.length a.cB, .slice a.AV a.nV a.cV] 27)).alloc (.cells #[.int .i64 t.f0, .string t.f1, .string t.f2, .int .i64 t.f3, .slice A t.f4.length c] 29)).alloc (.cells #[.int .i64 u.f0, .string u.f1, .string u.f2, .int .i64 u.f3, .slice B u.f4.length d] 29)).heap[w.heap.size + 1 + 1]? = some (.cells #[.int .i64 u.f0, .string u.f1, .string u.f2, .int .i64 u.f3, .slice B u.f4.length d] 29 (0, 0)) from blk_newN _ _ _ (by simp)))
  have HSM := Lib.hid (fun (D : Option Addr) (c : Nat) (W : World) (hb : Below w.heap.size w W) (hC : Kd.C kTy W D [t, u].length [t, u]) (hl : [t, u].length ≤ c) => small_any a s [t, u] D c W (hS.c.later hb) hC hl)
  have HX := Lib.hid (And.intro hA (And.intro hc (And.intro hB hd)))
  generalize hW0 : (((w.alloc (.cells #[.slice a.AW s.W.length a.cW, .slice a.AI a.nI a.cI, .slice a.AN a.nN a.cN, .slice a.AB s.B.length a.cB, .slice a.AV a.nV a.cV] 27)).alloc (.cells #[.int .i64 t.f0, .string t.f1, .string t.f2, .int .i64 t.f3, .slice A t.f4.length c] 29)).alloc (.cells #[.int .i64 u.f0, .string u.f1, .string u.f2, .int .i64 u.f3, .slice B u.f4.length d] 29)) = W0 at *
  have C27 := Lib.hid (fun (W : World) (hb : Below W0.heap.size W0 W) => (alike_any (tyAll t) u A B c d W (Kd.C_below hA (bel_trans HB.out hb)) hc (Kd.C_below hB (bel_trans HB.out hb)) hd).mono (fun e w' h => (⟨h.1, bel_trans hb h.2⟩ : e = .returned (.bool (alikeT t u)) ∧ Below W0.heap.size W0 w')))
  have C28 := Lib.hid (fun (W : World) (hb : Below W0.heap.size W0 W) => (ref_alike_any (tyAll t) u A B c d W (Kd.C_below hA (bel_trans HB.out hb)) hc (Kd.C_below hB (bel_trans HB.out hb)) hd).mono (fun e w' h => (⟨h.1, bel_trans hb h.2⟩ : e = .returned (.bool (alikeT t u)) ∧ Below W0.heap.size W0 w')))
  have C29 := Lib.hid (fun (W : World) (hb : Below W0.heap.size W0 W) => (meets_any a s.W s.B t u A B c d W (hS.c.later (bel_trans HB.out hb)) ok.1 (Kd.C_below hA (bel_trans HB.out hb)) hc (Kd.C_below hB (bel_trans HB.out hb)) hd).mono (fun e w' h => (⟨h.1, bel_trans hb h.2⟩ : e = .returned (.bool (meetsP s.W s.B t u)) ∧ Below W0.heap.size W0 w')))
  have C30 := Lib.hid (fun (W : World) (hb : Below W0.heap.size W0 W) => (ref_meets_any a s.W s.B t u A B c d W (hS.c.later (bel_trans HB.out hb)) ok.1 (Kd.C_below hA (bel_trans HB.out hb)) hc (Kd.C_below hB (bel_trans HB.out hb)) hd).mono (fun e w' h => (⟨h.1, bel_trans hb h.2⟩ : e = .returned (.bool (meetsP s.W s.B t u)) ∧ Below W0.heap.size W0 w')))
  have C31 := Lib.hid (fun (W : World) (hb : Below W0.heap.size W0 W) => (assign_any a s.W s.B t u A B c d W (hS.c.later (bel_trans HB.out hb)) ok.1 (Kd.C_below hA (bel_trans HB.out hb)) hc (Kd.C_below hB (bel_trans HB.out hb)) hd).mono (fun e w' h => (⟨h.1, bel_trans hb h.2⟩ : e = .returned (.bool (assignP s.W s.B t u)) ∧ Below W0.heap.size W0 w')))
  have C32 := Lib.hid (fun (W : World) (hb : Below W0.heap.size W0 W) => (ref_assign_any a s.W s.B t u A B c d W (hS.c.later (bel_trans HB.out hb)) ok.1 (Kd.C_below hA (bel_trans HB.out hb)) hc (Kd.C_below hB (bel_trans HB.out hb)) hd).mono (fun e w' h => (⟨h.1, bel_trans hb h.2⟩ : e = .returned (.bool (assignP s.W s.B t u)) ∧ Below W0.heap.size W0 w')))
  generalize alikeT t u = al at *
  generalize meetsP s.W s.B t u = me at *
  generalize assignP s.W s.B t u = asg at *
  simp only [tyV, scV] at C27 C28 C29 C30 C31 C32
  clear hS ok ht hu hc hd hA hB
  simp only [tyV, scV]
  go_enter Try.func4, Try.ntmps4
  go_wp2_with (fail)

  clear hW0
  refine (awake_any _).mono ?_
  rintro e w1 ⟨rfl, hb1⟩
  have HB1 := Lib.hid hb1
  have HSB := Lib.hid (fun (W : World) (hb : Below W0.heap.size W0 W) => (show W.cell? ⟨w.heap.size, 0, none⟩ = some (.slice a.AW s.W.length a.cW) ∧ W.cell? ⟨w.heap.size, 1, none⟩ = some (.slice a.AI a.nI a.cI) ∧ W.cell? ⟨w.heap.size, 2, none⟩ = some (.slice a.AN a.nN a.cN) ∧ W.cell? ⟨w.heap.size, 3, none⟩ = some (.slice a.AB s.B.length a.cB) ∧ W.cell? ⟨w.heap.size, 4, none⟩ = some (.slice a.AV a.nV a.cV) ∧ W.cell? ⟨w.heap.size + 1, 0, none⟩ = some (.int .i64 t.f0) ∧ W.cell? ⟨w.heap.size + 1, 1, none⟩ = some (.string t.f1) ∧ W.cell? ⟨w.heap.size + 1, 2, none⟩ = some (.string t.f2) ∧ W.cell? ⟨w.heap.size + 1, 3, none⟩ = some (.int .i64 t.f3) ∧ W.cell? ⟨w.heap.size + 1, 4, none⟩ = some (.slice A t.f4.length c) ∧ W.cell? ⟨w.heap.size + 1 + 1, 0, none⟩ = some (.int .i64 u.f0) ∧ W.cell? ⟨w.heap.size + 1 + 1, 1, none⟩ = some (.string u.f1) ∧ W.cell? ⟨w.heap.size + 1 + 1, 2, none⟩ = some (.string u.f2) ∧ W.cell? ⟨w.heap.size + 1 + 1, 3, none⟩ = some (.int .i64 u.f3) ∧ W.cell? ⟨w.heap.size + 1 + 1, 4, none⟩ = some (.slice B u.f4.length d) from ⟨(blk_cell (blk_later hb HS.out) 0).trans rfl, (blk_cell (blk_later hb HS.out) 1).trans rfl, (blk_cell (blk_later hb HS.out) 2).trans rfl, (blk_cell (blk_later hb HS.out) 3).trans rfl, (blk_cell (blk_later hb HS.out) 4).trans rfl, (blk_cell (blk_later hb HT.out) 0).trans rfl, (blk_cell (blk_later hb HT.out) 1).trans rfl, (blk_cell (blk_later hb HT.out) 2).trans rfl, (blk_cell (blk_later hb HT.out) 3).trans rfl, (blk_cell (blk_later hb HT.out) 4).trans rfl, (blk_cell (blk_later hb HU.out) 0).trans rfl, (blk_cell (blk_later hb HU.out) 1).trans rfl, (blk_cell (blk_later hb HU.out) 2).trans rfl, (blk_cell (blk_later hb HU.out) 3).trans rfl, (blk_cell (blk_later hb HU.out) 4).trans rfl⟩))
  obtain ⟨z0, z1, z2, z3, z4, z5, z6, z7, z8, z9, z10, z11, z12, z13, z14⟩ := HSB.out w1 hb1
  go_wp2_with (fail)
  have HR := Lib.hid (blk_new w1 (.cells #[.int .i64 t.f0, .string t.f1, .string t.f2, .int .i64 t.f3, .slice A t.f4.length c, .int .i64 u.f0, .string u.f1, .string u.f2, .int .i64 u.f3, .slice B u.f4.length d] 29))
  have HB2 := Lib.hid (bel_alloc HB1.out (.cells #[.int .i64 t.f0, .string t.f1, .string t.f2, .int .i64 t.f3, .slice A t.f4.length c, .int .i64 u.f0, .string u.f1, .string u.f2, .int .i64 u.f3, .slice B u.f4.length d] 29))
  have HSM2 := Lib.hid (HSM.out (some ⟨w1.heap.size, 0, none⟩) 2 (w1.alloc (.cells #[.int .i64 t.f0, .string t.f1, .string t.f2, .int .i64 t.f3, .slice A t.f4.length c, .int .i64 u.f0, .string u.f1, .string u.f2, .int .i64 u.f3, .slice B u.f4.length d] 29)) (bel_trans HB.out HB2.out) (C_ty2 HR.out (Kd.C_below HX.out.1 (bel_trans HB.out HB2.out)) HX.out.2.1 (Kd.C_below HX.out.2.2.1 (bel_trans HB.out HB2.out)) HX.out.2.2.2) (Nat.le_refl 2))
  clear HSM hb1 z0 z1 z2 z3 z4 z5 z6 z7 z8 z9 z10 z11 z12 z13 z14
  refine HSM2.out.mono ?_
  rintro e w2 ⟨r, rfl, hb2⟩
  have hb3 := bel_trans HB2.out hb2
  clear hb2 HSM2
  cases r with
  | false =>
    have HB3 := Lib.hid (bel_trans HB.out hb3)
    clear hb3
    go_wp2_with (fail)
    go_ret
    exact ⟨rfl, HB3.out⟩
  | true =>
    go_wp2_with (fail)
    go_region_held3 (fun W : World => W.cell? ⟨w.heap.size, 0, none⟩ = some (.slice a.AW s.W.length a.cW) ∧ W.cell? ⟨w.heap.size, 1, none⟩ = some (.slice a.AI a.nI a.cI) ∧ W.cell? ⟨w.heap.size, 2, none⟩ = some (.slice a.AN a.nN a.cN) ∧ W.cell? ⟨w.heap.size, 3, none⟩ = some (.slice a.AB s.B.length a.cB) ∧ W.cell? ⟨w.heap.size, 4, none⟩ = some (.slice a.AV a.nV a.cV) ∧ W.cell? ⟨w.heap.size + 1, 0, none⟩ = some (.int .i64 t.f0) ∧ W.cell? ⟨w.heap.size + 1, 1, none⟩ = some (.string t.f1) ∧ W.cell? ⟨w.heap.size + 1, 2, none⟩ = some (.string t.f2) ∧ W.cell? ⟨w.heap.size + 1, 3, none⟩ = some (.int .i64 t.f3) ∧ W.cell? ⟨w.heap.size + 1, 4, none⟩ = some (.slice A t.f4.length c) ∧ W.cell? ⟨w.heap.size + 1 + 1, 0, none⟩ = some (.int .i64 u.f0) ∧ W.cell? ⟨w.heap.size + 1 + 1, 1, none⟩ = some (.string u.f1) ∧ W.cell? ⟨w.heap.size + 1 + 1, 2, none⟩ = some (.string u.f2) ∧ W.cell? ⟨w.heap.size + 1 + 1, 3, none⟩ = some (.int .i64 u.f3) ∧ W.cell? ⟨w.heap.size + 1 + 1, 4, none⟩ = some (.slice B u.f4.length d)) ((refine HSB.out _ ?_; repeat (first | assumption | refine bel_drew ?_ | refine bel_drewN ?_ _))) (first | (go_at_call 27; refine (C27.out _ (by repeat (first | assumption | refine bel_drew ?_ | refine bel_drewN ?_ _))).mono ?_; rintro e w5 ⟨rfl, hb5⟩) | (go_at_call 28; refine (C28.out _ (by repeat (first | assumption | refine bel_drew ?_ | refine bel_drewN ?_ _))).mono ?_; rintro e w5 ⟨rfl, hb5⟩) | (go_at_call 29; refine (C29.out _ (by repeat (first | assumption | refine bel_drew ?_ | refine bel_drewN ?_ _))).mono ?_; rintro e w5 ⟨rfl, hb5⟩) | (go_at_call 30; refine (C30.out _ (by repeat (first | assumption | refine bel_drew ?_ | refine bel_drewN ?_ _))).mono ?_; rintro e w5 ⟨rfl, hb5⟩) | (go_at_call 31; refine (C31.out _ (by repeat (first | assumption | refine bel_drew ?_ | refine bel_drewN ?_ _))).mono ?_; rintro e w5 ⟨rfl, hb5⟩) | (go_at_call 32; refine (C32.out _ (by repeat (first | assumption | refine bel_drew ?_ | refine bel_drewN ?_ _))).mono ?_; rintro e w5 ⟨rfl, hb5⟩))
    all_goals
      go_wp2_with (fail)
      go_ret
      exact ⟨by simp, bel_trans HB.out (by repeat (first | assumption | refine bel_drew ?_ | refine bel_drewN ?_ _))⟩
end Go.Proofs.Ytbhagjhhgmmcgaa
