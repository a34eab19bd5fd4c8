/- SetsThrough: what meets an interface that meets another one meets that one. -/
import Derived.Test.YtbhagjhhgmmcgaaTyLA
import Derived.Test.YtbhagjhhgmmcgaaTyHC
namespace Go.Proofs.Ytbhagjhhgmmcgaa
open Go.RowKit PRef Go.Proofs.YtbhagjhhgmmcgaaW.PrintWords
set_option linter.unusedVariables false
set_option linter.unusedSimpArgs false

theorem allL_eq {q q' : Ty → Ty → Bool} : ∀ (l m : List Ty), (∀ x ∈ l, ∀ y ∈ m, q x y = q' x y) → allL q l m = allL q' l m
  | [], [], _ => rfl
  | [], _ :: _, _ => rfl
  | _ :: _, [], _ => rfl
  | a :: r, b :: s, h => by rw [allL, allL, h a List.mem_cons_self b List.mem_cons_self, allL_eq r s (fun x hx y hy => h x (List.mem_cons_of_mem _ hx) y (List.mem_cons_of_mem _ hy))]
theorem allL_trans {q : Ty → Ty → Bool} : ∀ (l m n : List Ty), (∀ x ∈ l, ∀ y z, q x y = true → q y z = true → q x z = true) → allL q l m = true → allL q m n = true → allL q l n = true
  | [], [], n, _, _, h2 => h2
  | [], _ :: _, _, _, h1, _ => by simp [allL] at h1
  | _ :: _, [], _, _, h1, _ => by simp [allL] at h1
  | a :: r, b :: s, [], _, _, h2 => by simp [allL] at h2
  | a :: r, b :: s, c :: u, h, h1, h2 => by
    rw [allL, Bool.and_eq_true] at h1 h2
    rw [allL, h a List.mem_cons_self b c h1.1 h2.1, allL_trans r s u (fun x hx => h x (List.mem_cons_of_mem _ hx)) h1.2 h2.2]; rfl
theorem sameT_trans : ∀ (a b c : Ty), sameT a b = true → sameT b c = true → sameT a c = true := by
  intro a
  induction tyAll a with
  | mk t hs ih =>
    intro b c h1 h2
    obtain ⟨k, p, n, m, l⟩ := t
    obtain ⟨k', p', n', m', l'⟩ := b
    obtain ⟨k'', p'', n'', m'', l''⟩ := c
    dsimp only at hs ih
    rw [sameT] at h1 h2 ⊢
    by_cases hk : k = k'
    · subst hk
      by_cases hk' : k = k''
      · subst hk'
        simp only [ne_eq, not_true_eq_false, if_false] at h1 h2 ⊢
        have hl : sameL l l' = true → sameL l' l'' = true → sameL l l'' = true := by
          rw [sameL_all, sameL_all, sameL_all]
          exact allL_trans l l' l'' ih
        by_cases h4 : k = 4
        · rw [if_pos h4] at h1 h2 ⊢
          have e1 := of_decide_eq_true h1
          have e2 := of_decide_eq_true h2
          exact decide_eq_true ⟨e1.1.trans e2.1, e1.2.trans e2.2⟩
        · rw [if_neg h4] at h1 h2 ⊢
          by_cases h5 : k = 5
          · rw [if_pos h5] at h1 h2 ⊢
            exact hl h1 h2
          · rw [if_neg h5] at h1 h2 ⊢
            by_cases h6 : k = 6
            · rw [if_pos h6] at h1 h2 ⊢
              exact decide_eq_true ((of_decide_eq_true h1).trans (of_decide_eq_true h2))
            · rw [if_neg h6] at h1 h2 ⊢
              by_cases h7 : 0 ≤ k ∧ k ≤ 7
              · rw [if_pos h7]
              · rw [if_neg h7] at h1 h2 ⊢
                rw [Bool.and_eq_true] at h1 h2
                have e1 := of_decide_eq_true h1.1
                have e2 := of_decide_eq_true h2.1
                rw [decide_eq_true (show p = p'' ∧ n = n'' ∧ m = m'' from ⟨e1.1.trans e2.1, e1.2.1.trans e2.2.1, e1.2.2.trans e2.2.2⟩), hl h1.2 h2.2]; rfl
      · rw [if_pos hk'] at h2; cases h2
    · rw [if_pos hk] at h1; cases h1
theorem alike_same : ∀ (a b : Ty), badT a = false → badT b = false → alikeT a b = sameT a b := by
  intro a
  induction tyAll a with
  | mk t hs ih =>
    intro b h1 h2
    obtain ⟨k, p, n, m, l⟩ := t
    obtain ⟨k', p', n', m', l'⟩ := b
    dsimp only at hs ih
    rw [badT, Bool.or_eq_false_iff] at h1 h2
    have h10 := of_decide_eq_false h1.1
    have h20 := of_decide_eq_false h2.1
    rw [alikeT, if_neg h10, if_neg h20]
    by_cases h5 : k = 5 ∧ k' = 5
    · rw [if_pos h5]
      obtain ⟨rfl, rfl⟩ := h5
      rw [sameT, if_neg (by simp), if_neg (by decide), if_pos rfl, sameL_all, alikeL_all]
      rw [badL_any] at h1 h2
      have n1 := List.any_eq_false.1 h1.2
      have n2 := List.any_eq_false.1 h2.2
      exact allL_eq l l' (fun x hx y hy => ih x hx y (by simpa using n1 x hx) (by simpa using n2 y hy))
    · rw [if_neg h5]
theorem alikeL_same (l m : List Ty) (h1 : l.any badT = false) (h2 : m.any badT = false) : alikeL l m = allL sameT l m := by
  rw [alikeL_all]
  have n1 := List.any_eq_false.1 h1
  have n2 := List.any_eq_false.1 h2
  exact allL_eq l m (fun x hx y hy => alike_same x y (by simpa using n1 x hx) (by simpa using n2 y hy))
theorem through {W : List Ifc} {B : List Ty} {t i j : Ty} (hx : (methodsP W B t).any badM = false) (hy : (methodsP W B i).any badM = false) (hz : (methodsP W B j).any badM = false) (h1 : meetsP W B t i = true) (h2 : meetsP W B i j = true) : meetsP W B t j = true := by
  unfold meetsP at *
  rw [Bool.and_eq_true] at h1 h2 ⊢
  refine ⟨h2.1, List.all_eq_true.2 fun z hzm => ?_⟩
  have w2 := List.all_eq_true.1 h2.2 z hzm
  unfold wantP at w2
  cases e2 : (methodsP W B i).find? (fun m => decide (m.f0 = z.f0)) with
  | none => rw [e2] at w2; cases w2
  | some y =>
    rw [e2] at w2
    have hym := List.mem_of_find?_eq_some e2
    have hyn : y.f0 = z.f0 := by have := List.find?_some e2; simpa using this
    have w1 := List.all_eq_true.1 h1.2 y hym
    unfold wantP at w1 ⊢
    rw [hyn] at w1
    cases e1 : (methodsP W B t).find? (fun m => decide (m.f0 = z.f0)) with
    | none => rw [e1] at w1; cases w1
    | some m =>
      rw [e1] at w1
      have hmm := List.mem_of_find?_eq_some e1
      simp only [Bool.and_eq_true] at w1 w2 ⊢
      have bm : badM m = false := by simpa using List.any_eq_false.1 hx m hmm
      have by' : badM y = false := by simpa using List.any_eq_false.1 hy y hym
      have bz : badM z = false := by simpa using List.any_eq_false.1 hz z hzm
      unfold badM at bm by' bz
      rw [Bool.or_eq_false_iff] at bm by' bz
      rw [alikeL_same _ _ bm.2 by'.2, alike_same _ _ bm.1 by'.1] at w1
      rw [alikeL_same _ _ by'.2 bz.2, alike_same _ _ by'.1 bz.1] at w2
      rw [alikeL_same _ _ bm.2 bz.2, alike_same _ _ bm.1 bz.1]
      exact ⟨allL_trans _ _ _ (fun x _ y z => sameT_trans x y z) w1.1 w2.1, sameT_trans _ _ _ w1.2 w2.2⟩

set_option maxRecDepth 100000 in
set_option maxHeartbeats 8000000 in
theorem through_any (s : Scp) (a : ScA) (t : Ty) (A : Option Addr) (c : Nat) (u : Ty) (B : Option Addr) (d : Nat) (v : Ty) (C : Option Addr) (e : Nat) (w : World) (ok : WOk s.W ∧ (∀ t ∈ s.B, TyOk t) ∧ s.W.length * 64 ≤ 140737488351232) (hS : ScpC a s w) (ht : TyOk t) (hc : t.f4.length ≤ c) (hA : Kd.C kTy w A t.f4.length t.f4) (hu : TyOk u) (hd : u.f4.length ≤ d) (hB : Kd.C kTy w B u.f4.length u.f4) (hv : TyOk v) (he : v.f4.length ≤ e) (hC : Kd.C kTy w C v.f4.length v.f4) :
    Calls Try.prog 5 #[scV a s.W s.B, tyV t A c, tyV u B d, tyV v C e] w fun e w' => e = .returned (.bool true) ∧ Below w.heap.size w w' := by
  have HB := Lib.hid (bel_alloc (bel_alloc (bel_alloc (bel_alloc (Below.refl w.heap.size w) (.cells #[.slice a.AW s.W.length a.cW, .slice a.AI a.nI a.cI, .slice a.AN a.nN a.cN, .slice a.AB s.B.length a.cB, .slice a.AV a.nV a.cV] 27)) (.cells #[.int .i64 t.f0, .string t.f1, .string t.f2, .int .i64 t.f3, .slice A t.f4.length c] 29)) (.cells #[.int .i64 u.f0, .string u.f1, .string u.f2, .int .i64 u.f3, .slice B u.f4.length d] 29)) (.cells #[.int .i64 v.f0, .string v.f1, .string v.f2, .int .i64 v.f3, .slice C v.f4.length e] 29))
  have HS := Lib.hid (blk_alloc (blk_alloc (blk_alloc (blk_new w (.cells #[.slice a.AW s.W.length a.cW, .slice a.AI a.nI a.cI, .slice a.AN a.nN a.cN, .slice a.AB s.B.length a.cB, .slice a.AV a.nV a.cV] 27)) (.cells #[.int .i64 t.f0, .string t.f1, .string t.f2, .int .i64 t.f3, .slice A t.f4.length c] 29)) (.cells #[.int .i64 u.f0, .string u.f1, .string u.f2, .int .i64 u.f3, .slice B u.f4.length d] 29)) (.cells #[.int .i64 v.f0, .string v.f1, .string v.f2, .int .i64 v.f3, .slice C v.f4.length e] 29))
  have HT := Lib.hid (blk_alloc (blk_alloc ((show ((w.alloc (.cells #[.slice a.AW s.W.length a.cW, .slice a.AI a.nI a.cI, .slice a.AN a.nN a.cN, .slice a.AB s.B.length a.cB, .slice a.AV a.nV a.cV] 27)).alloc (.cells #[.int .i64 t.f0, .string t.f1, .string t.f2, .int .i64 t.f3, .slice A t.f4.length c] 29)).heap[w.heap.size + 1]? = some (.cells #[.int .i64 t.f0, .string t.f1, .string t.f2, .int .i64 t.f3, .slice A t.f4.length c] 29 (0, 0)) from blk_newN _ _ _ (by simp))) (.cells #[.int .i64 u.f0, .string u.f1, .string u.f2, .int .i64 u.f3, .slice B u.f4.length d] 29)) (.cells #[.int .i64 v.f0, .string v.f1, .string v.f2, .int .i64 v.f3, .slice C v.f4.length e] 29))
  have HU := Lib.hid (blk_alloc ((show (((w.alloc (.cells #[.slice a.AW s.W.length a.cW, .slice a.AI a.nI a.cI, .slice a.AN a.nN a.cN, .slice a.AB s.B.length a.cB, .slice a.AV a.nV a.cV] 27)).alloc (.cells #[.int .i64 t.f0, .string t.f1, .string t.f2, .int .i64 t.f3, .slice A t.f4.length c] 29)).alloc (.cells #[.int .i64 u.f0, .string u.f1, .string u.f2, .int .i64 u.f3, .slice B u.f4.length d] 29)).heap[w.heap.size + 1 + 1]? = some (.cells #[.int .i64 u.f0, .string u.f1, .string u.f2, .int .i64 u.f3, .slice B u.f4.length d] 29 (0, 0)) from blk_newN _ _ _ (by simp))) (.cells #[.int .i64 v.f0, .string v.f1, .string v.f2, .int .i64 v.f3, .slice C v.f4.length e] 29))
  have HV := Lib.hid ((show ((((w.alloc (.cells #[.slice a.AW s.W.length a.cW, .slice a.AI a.nI a.cI, .slice a.AN a.nN a.cN, .slice a.AB s.B.length a.cB, .slice a.AV a.nV a.cV] 27)).alloc (.cells #[.int .i64 t.f0, .string t.f1, .string t.f2, .int .i64 t.f3, .slice A t.f4.length c] 29)).alloc (.cells #[.int .i64 u.f0, .string u.f1, .string u.f2, .int .i64 u.f3, .slice B u.f4.length d] 29)).alloc (.cells #[.int .i64 v.f0, .string v.f1, .string v.f2, .int .i64 v.f3, .slice C v.f4.length e] 29)).heap[w.heap.size + 1 + 1 + 1]? = some (.cells #[.int .i64 v.f0, .string v.f1, .string v.f2, .int .i64 v.f3, .slice C v.f4.length e] 29 (0, 0)) from blk_newN _ _ _ (by simp)))
  have HSM := Lib.hid (fun (D : Option Addr) (c : Nat) (W : World) (hb : Below w.heap.size w W) (hC : Kd.C kTy W D [t, u, v].length [t, u, v]) (hl : [t, u, v].length ≤ c) => small_any a s [t, u, v] D c W (hS.c.later hb) hC hl)
  have HX := Lib.hid (And.intro hA (And.intro hc (And.intro hB (And.intro hd (And.intro hC he)))))
  generalize hW0 : ((((w.alloc (.cells #[.slice a.AW s.W.length a.cW, .slice a.AI a.nI a.cI, .slice a.AN a.nN a.cN, .slice a.AB s.B.length a.cB, .slice a.AV a.nV a.cV] 27)).alloc (.cells #[.int .i64 t.f0, .string t.f1, .string t.f2, .int .i64 t.f3, .slice A t.f4.length c] 29)).alloc (.cells #[.int .i64 u.f0, .string u.f1, .string u.f2, .int .i64 u.f3, .slice B u.f4.length d] 29)).alloc (.cells #[.int .i64 v.f0, .string v.f1, .string v.f2, .int .i64 v.f3, .slice C v.f4.length e] 29)) = W0 at *
  have M1 := Lib.hid (fun (W : World) (hb : Below W0.heap.size W0 W) => ref_methods_any a s.W s.B t A c W (hS.c.later (bel_trans HB.out hb)) (Kd.C_below hA (bel_trans HB.out hb)) hc)
  have M2 := Lib.hid (fun (W : World) (hb : Below W0.heap.size W0 W) => ref_methods_any a s.W s.B u B d W (hS.c.later (bel_trans HB.out hb)) (Kd.C_below hB (bel_trans HB.out hb)) hd)
  have M3 := Lib.hid (fun (W : World) (hb : Below W0.heap.size W0 W) => ref_methods_any a s.W s.B v C e W (hS.c.later (bel_trans HB.out hb)) (Kd.C_below hC (bel_trans HB.out hb)) he)
  have Q1 := Lib.hid (fun (W : World) (hb : Below W0.heap.size W0 W) => meets_any a s.W s.B t u A B c d W (hS.c.later (bel_trans HB.out hb)) ok.1 (Kd.C_below hA (bel_trans HB.out hb)) hc (Kd.C_below hB (bel_trans HB.out hb)) hd)
  have Q2 := Lib.hid (fun (W : World) (hb : Below W0.heap.size W0 W) => meets_any a s.W s.B u v B C d e W (hS.c.later (bel_trans HB.out hb)) ok.1 (Kd.C_below hB (bel_trans HB.out hb)) hd (Kd.C_below hC (bel_trans HB.out hb)) he)
  have Q3 := Lib.hid (fun (W : World) (hb : Below W0.heap.size W0 W) => meets_any a s.W s.B t v A C c e W (hS.c.later (bel_trans HB.out hb)) ok.1 (Kd.C_below hA (bel_trans HB.out hb)) hc (Kd.C_below hC (bel_trans HB.out hb)) he)
  have HTH := Lib.hid (fun h1 h2 h3 h4 h5 => through (W := s.W) (B := s.B) (t := t) (i := u) (j := v) h1 h2 h3 h4 h5)
  generalize methodsP s.W s.B t = L1 at *
  generalize methodsP s.W s.B u = L2 at *
  generalize methodsP s.W s.B v = L3 at *
  generalize meetsP s.W s.B t u = m1 at *
  generalize meetsP s.W s.B u v = m2 at *
  generalize meetsP s.W s.B t v = m3 at *
  simp only [tyV, scV] at M1 M2 M3 Q1 Q2 Q3
  clear hS ok ht hu hv hc hd he hA hB hC
  simp only [tyV, scV]
  go_enter Try.func5, Try.ntmps5
  go_wp2_with (fail)
  clear hW0
  refine (awake_any _).mono ?_
  rintro e1 w1 ⟨rfl, hb1⟩
  have hb := hb1
  clear hb1
  replace HS := Lib.hid (blk_later hb HS.out)
  replace HT := Lib.hid (blk_later hb HT.out)
  replace HU := Lib.hid (blk_later hb HU.out)
  replace HV := Lib.hid (blk_later hb HV.out)
  have HBW := Lib.hid hb
  clear hb
  have s0 := (blk_cell HS.out 0).trans rfl
  have s1 := (blk_cell HS.out 1).trans rfl
  have s2 := (blk_cell HS.out 2).trans rfl
  have s3 := (blk_cell HS.out 3).trans rfl
  have s4 := (blk_cell HS.out 4).trans rfl
  have t0 := (blk_cell HT.out 0).trans rfl
  have t1 := (blk_cell HT.out 1).trans rfl
  have t2 := (blk_cell HT.out 2).trans rfl
  have t3 := (blk_cell HT.out 3).trans rfl
  have t4 := (blk_cell HT.out 4).trans rfl
  have u0 := (blk_cell HU.out 0).trans rfl
  have u1 := (blk_cell HU.out 1).trans rfl
  have u2 := (blk_cell HU.out 2).trans rfl
  have u3 := (blk_cell HU.out 3).trans rfl
  have u4 := (blk_cell HU.out 4).trans rfl
  have v0 := (blk_cell HV.out 0).trans rfl
  have v1 := (blk_cell HV.out 1).trans rfl
  have v2 := (blk_cell HV.out 2).trans rfl
  have v3 := (blk_cell HV.out 3).trans rfl
  have v4 := (blk_cell HV.out 4).trans rfl
  go_wp2_with (fail)
  have HR := Lib.hid (blk_new w1 (.cells #[.int .i64 t.f0, .string t.f1, .string t.f2, .int .i64 t.f3, .slice A t.f4.length c, .int .i64 u.f0, .string u.f1, .string u.f2, .int .i64 u.f3, .slice B u.f4.length d, .int .i64 v.f0, .string v.f1, .string v.f2, .int .i64 v.f3, .slice C v.f4.length e] 29))
  have HB2 := Lib.hid (bel_alloc HBW.out (.cells #[.int .i64 t.f0, .string t.f1, .string t.f2, .int .i64 t.f3, .slice A t.f4.length c, .int .i64 u.f0, .string u.f1, .string u.f2, .int .i64 u.f3, .slice B u.f4.length d, .int .i64 v.f0, .string v.f1, .string v.f2, .int .i64 v.f3, .slice C v.f4.length e] 29))
  have HSM2 := Lib.hid (HSM.out (some ⟨w1.heap.size, 0, none⟩) 3 (w1.alloc (.cells #[.int .i64 t.f0, .string t.f1, .string t.f2, .int .i64 t.f3, .slice A t.f4.length c, .int .i64 u.f0, .string u.f1, .string u.f2, .int .i64 u.f3, .slice B u.f4.length d, .int .i64 v.f0, .string v.f1, .string v.f2, .int .i64 v.f3, .slice C v.f4.length e] 29)) (bel_trans HB.out HB2.out) (C_ty3 HR.out (Kd.C_below HX.out.1 (bel_trans HB.out HB2.out)) HX.out.2.1 (Kd.C_below HX.out.2.2.1 (bel_trans HB.out HB2.out)) HX.out.2.2.2.1 (Kd.C_below HX.out.2.2.2.2.1 (bel_trans HB.out HB2.out)) HX.out.2.2.2.2.2) (Nat.le_refl 3))
  clear HSM
  have HSa := Lib.hid (blk_alloc HS.out (.cells #[.int .i64 t.f0, .string t.f1, .string t.f2, .int .i64 t.f3, .slice A t.f4.length c, .int .i64 u.f0, .string u.f1, .string u.f2, .int .i64 u.f3, .slice B u.f4.length d, .int .i64 v.f0, .string v.f1, .string v.f2, .int .i64 v.f3, .slice C v.f4.length e] 29))
  have HTa := Lib.hid (blk_alloc HT.out (.cells #[.int .i64 t.f0, .string t.f1, .string t.f2, .int .i64 t.f3, .slice A t.f4.length c, .int .i64 u.f0, .string u.f1, .string u.f2, .int .i64 u.f3, .slice B u.f4.length d, .int .i64 v.f0, .string v.f1, .string v.f2, .int .i64 v.f3, .slice C v.f4.length e] 29))
  have HUa := Lib.hid (blk_alloc HU.out (.cells #[.int .i64 t.f0, .string t.f1, .string t.f2, .int .i64 t.f3, .slice A t.f4.length c, .int .i64 u.f0, .string u.f1, .string u.f2, .int .i64 u.f3, .slice B u.f4.length d, .int .i64 v.f0, .string v.f1, .string v.f2, .int .i64 v.f3, .slice C v.f4.length e] 29))
  have HVa := Lib.hid (blk_alloc HV.out (.cells #[.int .i64 t.f0, .string t.f1, .string t.f2, .int .i64 t.f3, .slice A t.f4.length c, .int .i64 u.f0, .string u.f1, .string u.f2, .int .i64 u.f3, .slice B u.f4.length d, .int .i64 v.f0, .string v.f1, .string v.f2, .int .i64 v.f3, .slice C v.f4.length e] 29))
  clear HS HT HU HV HR s0 s1 s2 s3 s4 t0 t1 t2 t3 t4 u0 u1 u2 u3 u4 v0 v1 v2 v3 v4
  refine HSM2.out.mono ?_
  rintro e2 w2 ⟨r, rfl, hb⟩
  have HS := Lib.hid (blk_later hb HSa.out)
  have HT := Lib.hid (blk_later hb HTa.out)
  have HU := Lib.hid (blk_later hb HUa.out)
  have HV := Lib.hid (blk_later hb HVa.out)
  replace HBW := Lib.hid (bel_trans HB2.out hb)
  clear hb HSM2 HSa HTa HUa HVa HB2
  cases r with
  | false =>
    go_wp2_with (fail)
    go_ret
    exact ⟨rfl, bel_trans HB.out HBW.out⟩
  | true =>
    have s0 := (blk_cell HS.out 0).trans rfl
    have s1 := (blk_cell HS.out 1).trans rfl
    have s2 := (blk_cell HS.out 2).trans rfl
    have s3 := (blk_cell HS.out 3).trans rfl
    have s4 := (blk_cell HS.out 4).trans rfl
    have t0 := (blk_cell HT.out 0).trans rfl
    have t1 := (blk_cell HT.out 1).trans rfl
    have t2 := (blk_cell HT.out 2).trans rfl
    have t3 := (blk_cell HT.out 3).trans rfl
    have t4 := (blk_cell HT.out 4).trans rfl
    go_wp2_with (fail)
    refine (M1.out _ HBW.out).mono ?_
    rintro e3 w3 ⟨D1, x1, rfl, hl, hC, hb⟩
    have HBD := Lib.hid (bads_any L1 D1 x1 w3 (Kd.C_below hC hb) hl)
    replace HS := Lib.hid (blk_later hb HS.out)
    replace HT := Lib.hid (blk_later hb HT.out)
    replace HU := Lib.hid (blk_later hb HU.out)
    replace HV := Lib.hid (blk_later hb HV.out)
    replace HBW := Lib.hid (bel_trans HBW.out hb)
    clear hb hl hC s0 s1 s2 s3 s4 t0 t1 t2 t3 t4
    go_wp2_with (fail)
    refine HBD.out.mono ?_
    rintro e4 w4 ⟨rfl, hb⟩
    replace HS := Lib.hid (blk_later hb HS.out)
    replace HT := Lib.hid (blk_later hb HT.out)
    replace HU := Lib.hid (blk_later hb HU.out)
    replace HV := Lib.hid (blk_later hb HV.out)
    replace HBW := Lib.hid (bel_trans HBW.out hb)
    clear hb HBD
    have s0 := (blk_cell HS.out 0).trans rfl
    have s1 := (blk_cell HS.out 1).trans rfl
    have s2 := (blk_cell HS.out 2).trans rfl
    have s3 := (blk_cell HS.out 3).trans rfl
    have s4 := (blk_cell HS.out 4).trans rfl
    have u0 := (blk_cell HU.out 0).trans rfl
    have u1 := (blk_cell HU.out 1).trans rfl
    have u2 := (blk_cell HU.out 2).trans rfl
    have u3 := (blk_cell HU.out 3).trans rfl
    have u4 := (blk_cell HU.out 4).trans rfl
    go_wp2_with (fail)
    refine (M2.out _ HBW.out).mono ?_
    rintro e3 w3 ⟨D2, x2, rfl, hl, hC, hb⟩
    have HBD := Lib.hid (bads_any L2 D2 x2 w3 (Kd.C_below hC hb) hl)
    replace HS := Lib.hid (blk_later hb HS.out)
    replace HT := Lib.hid (blk_later hb HT.out)
    replace HU := Lib.hid (blk_later hb HU.out)
    replace HV := Lib.hid (blk_later hb HV.out)
    replace HBW := Lib.hid (bel_trans HBW.out hb)
    clear hb hl hC s0 s1 s2 s3 s4 u0 u1 u2 u3 u4
    go_wp2_with (fail)
    refine HBD.out.mono ?_
    rintro e4 w4 ⟨rfl, hb⟩
    replace HS := Lib.hid (blk_later hb HS.out)
    replace HT := Lib.hid (blk_later hb HT.out)
    replace HU := Lib.hid (blk_later hb HU.out)
    replace HV := Lib.hid (blk_later hb HV.out)
    replace HBW := Lib.hid (bel_trans HBW.out hb)
    clear hb HBD
    have s0 := (blk_cell HS.out 0).trans rfl
    have s1 := (blk_cell HS.out 1).trans rfl
    have s2 := (blk_cell HS.out 2).trans rfl
    have s3 := (blk_cell HS.out 3).trans rfl
    have s4 := (blk_cell HS.out 4).trans rfl
    have v0 := (blk_cell HV.out 0).trans rfl
    have v1 := (blk_cell HV.out 1).trans rfl
    have v2 := (blk_cell HV.out 2).trans rfl
    have v3 := (blk_cell HV.out 3).trans rfl
    have v4 := (blk_cell HV.out 4).trans rfl
    go_wp2_with (fail)
    refine (M3.out _ HBW.out).mono ?_
    rintro e3 w3 ⟨D3, x3, rfl, hl, hC, hb⟩
    have HBD := Lib.hid (bads_any L3 D3 x3 w3 (Kd.C_below hC hb) hl)
    replace HS := Lib.hid (blk_later hb HS.out)
    replace HT := Lib.hid (blk_later hb HT.out)
    replace HU := Lib.hid (blk_later hb HU.out)
    replace HV := Lib.hid (blk_later hb HV.out)
    replace HBW := Lib.hid (bel_trans HBW.out hb)
    clear hb hl hC s0 s1 s2 s3 s4 v0 v1 v2 v3 v4
    go_wp2_with (fail)
    refine HBD.out.mono ?_
    rintro e4 w4 ⟨rfl, hb⟩
    replace HS := Lib.hid (blk_later hb HS.out)
    replace HT := Lib.hid (blk_later hb HT.out)
    replace HU := Lib.hid (blk_later hb HU.out)
    replace HV := Lib.hid (blk_later hb HV.out)
    replace HBW := Lib.hid (bel_trans HBW.out hb)
    clear hb HBD
    generalize L1.any badM = b1 at *
    generalize L2.any badM = b2 at *
    generalize L3.any badM = b3 at *
    cases b1 with
    | true =>
      go_wp2_with (fail)
      go_ret
      exact ⟨rfl, bel_trans HB.out HBW.out⟩
    | false =>
    cases b2 with
    | true =>
      go_wp2_with (fail)
      go_ret
      exact ⟨rfl, bel_trans HB.out HBW.out⟩
    | false =>
    cases b3 with
    | true =>
      go_wp2_with (fail)
      go_ret
      exact ⟨rfl, bel_trans HB.out HBW.out⟩
    | false =>
    have HTH1 := Lib.hid (HTH.out rfl rfl rfl)
    clear HTH
    have s0 := (blk_cell HS.out 0).trans rfl
    have s1 := (blk_cell HS.out 1).trans rfl
    have s2 := (blk_cell HS.out 2).trans rfl
    have s3 := (blk_cell HS.out 3).trans rfl
    have s4 := (blk_cell HS.out 4).trans rfl
    have t0 := (blk_cell HT.out 0).trans rfl
    have t1 := (blk_cell HT.out 1).trans rfl
    have t2 := (blk_cell HT.out 2).trans rfl
    have t3 := (blk_cell HT.out 3).trans rfl
    have t4 := (blk_cell HT.out 4).trans rfl
    have u0 := (blk_cell HU.out 0).trans rfl
    have u1 := (blk_cell HU.out 1).trans rfl
    have u2 := (blk_cell HU.out 2).trans rfl
    have u3 := (blk_cell HU.out 3).trans rfl
    have u4 := (blk_cell HU.out 4).trans rfl
    go_wp2_with (fail)
    refine (Q1.out _ HBW.out).mono ?_
    rintro e5 w5 ⟨rfl, hb⟩
    replace HS := Lib.hid (blk_later hb HS.out)
    replace HT := Lib.hid (blk_later hb HT.out)
    replace HU := Lib.hid (blk_later hb HU.out)
    replace HV := Lib.hid (blk_later hb HV.out)
    replace HBW := Lib.hid (bel_trans HBW.out hb)
    clear hb s0 s1 s2 s3 s4 t0 t1 t2 t3 t4 u0 u1 u2 u3 u4
    have s0 := (blk_cell HS.out 0).trans rfl
    have s1 := (blk_cell HS.out 1).trans rfl
    have s2 := (blk_cell HS.out 2).trans rfl
    have s3 := (blk_cell HS.out 3).trans rfl
    have s4 := (blk_cell HS.out 4).trans rfl
    have u0 := (blk_cell HU.out 0).trans rfl
    have u1 := (blk_cell HU.out 1).trans rfl
    have u2 := (blk_cell HU.out 2).trans rfl
    have u3 := (blk_cell HU.out 3).trans rfl
    have u4 := (blk_cell HU.out 4).trans rfl
    have v0 := (blk_cell HV.out 0).trans rfl
    have v1 := (blk_cell HV.out 1).trans rfl
    have v2 := (blk_cell HV.out 2).trans rfl
    have v3 := (blk_cell HV.out 3).trans rfl
    have v4 := (blk_cell HV.out 4).trans rfl
    go_wp2_with (fail)
    refine (Q2.out _ HBW.out).mono ?_
    rintro e5 w5 ⟨rfl, hb⟩
    replace HS := Lib.hid (blk_later hb HS.out)
    replace HT := Lib.hid (blk_later hb HT.out)
    replace HU := Lib.hid (blk_later hb HU.out)
    replace HV := Lib.hid (blk_later hb HV.out)
    replace HBW := Lib.hid (bel_trans HBW.out hb)
    clear hb s0 s1 s2 s3 s4 u0 u1 u2 u3 u4 v0 v1 v2 v3 v4
    have s0 := (blk_cell HS.out 0).trans rfl
    have s1 := (blk_cell HS.out 1).trans rfl
    have s2 := (blk_cell HS.out 2).trans rfl
    have s3 := (blk_cell HS.out 3).trans rfl
    have s4 := (blk_cell HS.out 4).trans rfl
    have t0 := (blk_cell HT.out 0).trans rfl
    have t1 := (blk_cell HT.out 1).trans rfl
    have t2 := (blk_cell HT.out 2).trans rfl
    have t3 := (blk_cell HT.out 3).trans rfl
    have t4 := (blk_cell HT.out 4).trans rfl
    have v0 := (blk_cell HV.out 0).trans rfl
    have v1 := (blk_cell HV.out 1).trans rfl
    have v2 := (blk_cell HV.out 2).trans rfl
    have v3 := (blk_cell HV.out 3).trans rfl
    have v4 := (blk_cell HV.out 4).trans rfl
    go_wp2_with (fail)
    refine (Q3.out _ HBW.out).mono ?_
    rintro e5 w5 ⟨rfl, hb⟩
    replace HS := Lib.hid (blk_later hb HS.out)
    replace HT := Lib.hid (blk_later hb HT.out)
    replace HU := Lib.hid (blk_later hb HU.out)
    replace HV := Lib.hid (blk_later hb HV.out)
    replace HBW := Lib.hid (bel_trans HBW.out hb)
    clear hb s0 s1 s2 s3 s4 t0 t1 t2 t3 t4 v0 v1 v2 v3 v4
    by_cases hbad : m1 = true ∧ m2 = true ∧ m3 = false
    · obtain ⟨rfl, rfl, rfl⟩ := hbad
      exact absurd (HTH1.out rfl rfl) (by decide)
    · clear HTH1
      cases m1 <;> cases m2 <;> cases m3
      all_goals first
        | exact absurd ⟨rfl, rfl, rfl⟩ hbad
        | (clear hbad
           go_wp2_with (fail)
           go_ret
           exact ⟨rfl, bel_trans HB.out HBW.out⟩)
end Go.Proofs.Ytbhagjhhgmmcgaa
