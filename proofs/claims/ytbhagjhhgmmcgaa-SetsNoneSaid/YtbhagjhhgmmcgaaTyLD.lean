/- SetsNone: each type meets an interface that asks for nothing. -/
import Derived.Test.YtbhagjhhgmmcgaaTyLA
import Derived.BigQuiet
namespace Go.Proofs.Ytbhagjhhgmmcgaa
open Go.RowKit PRef Go.Proofs.YtbhagjhhgmmcgaaW.PrintWords
set_option linter.unusedVariables false
set_option linter.unusedSimpArgs false

def Dist (L : List Mth) (K : Nat) : Prop := ∀ (k n : Nat) x y, n < k → k < K → L[n]? = some x → L[k]? = some y → ¬ x.f0 = y.f0
theorem meets_self {W : List Ifc} {B : List Ty} {i : Ty} (hi : ifaceP W i = true) (hd : Dist (methodsP W B i) (methodsP W B i).length) : meetsP W B i i = true := by
  unfold meetsP
  rw [hi, Bool.true_and]
  generalize methodsP W B i = L at *
  refine List.all_eq_true.2 fun x hx => ?_
  unfold wantP
  cases e : L.find? (fun m => decide (m.f0 = x.f0)) with
  | none =>
    have := List.find?_eq_none.1 e x hx
    simp at this
  | some y =>
    have hym := List.mem_of_find?_eq_some e
    have hyn : y.f0 = x.f0 := by have := List.find?_some e; simpa using this
    obtain ⟨a, ha, ea⟩ := List.mem_iff_getElem.1 hym
    obtain ⟨b, hb, eb⟩ := List.mem_iff_getElem.1 hx
    have hab : a = b := by
      apply Classical.byContradiction
      intro hne
      rcases Nat.lt_or_ge a b with h | h
      · exact hd b a y x h hb (by rw [← ea]; exact List.getElem?_eq_getElem ha) (by rw [← eb]; exact List.getElem?_eq_getElem hb) hyn
      · exact hd a b x y (by omega) ha (by rw [← eb]; exact List.getElem?_eq_getElem hb) (by rw [← ea]; exact List.getElem?_eq_getElem ha) hyn.symm
    subst hab
    have exy : y = x := ea.symm.trans eb
    subst exy
    show (alikeL y.f1 y.f1 && alikeT y.f2 y.f2) = true
    rw [alikeL_all, allL_self y.f1 (fun p _ => alikeT_self p), alikeT_self]; rfl

set_option maxRecDepth 100000 in
set_option maxHeartbeats 8000000 in
theorem none_any (s : Scp) (a : ScA) (t : Ty) (A : Option Addr) (c : Nat) (u : Ty) (B : Option Addr) (d : Nat) (w : World) (ok : WOk s.W ∧ (∀ t ∈ s.B, TyOk t) ∧ s.W.length * 64 ≤ 140737488351232) (hS : ScpC a s w) (ht : TyOk t) (hc : t.f4.length ≤ c) (hA : Kd.C kTy w A t.f4.length t.f4) (hu : TyOk u) (hd : u.f4.length ≤ d) (hB : Kd.C kTy w B u.f4.length u.f4) :
    Calls Try.prog 6 #[scV a s.W s.B, tyV t A c, tyV u B d] w fun e w' => e = .returned (.bool true) ∧ Below w.heap.size w w' := by
  have HB := Lib.hid (bel_alloc (bel_alloc (bel_alloc (Below.refl w.heap.size w) (.cells #[.slice a.AW s.W.length a.cW, .slice a.AI a.nI a.cI, .slice a.AN a.nN a.cN, .slice a.AB s.B.length a.cB, .slice a.AV a.nV a.cV] 27)) (.cells #[.int .i64 t.f0, .string t.f1, .string t.f2, .int .i64 t.f3, .slice A t.f4.length c] 29)) (.cells #[.int .i64 u.f0, .string u.f1, .string u.f2, .int .i64 u.f3, .slice B u.f4.length d] 29))
  have HS := Lib.hid (blk_alloc (blk_alloc (blk_new w (.cells #[.slice a.AW s.W.length a.cW, .slice a.AI a.nI a.cI, .slice a.AN a.nN a.cN, .slice a.AB s.B.length a.cB, .slice a.AV a.nV a.cV] 27)) (.cells #[.int .i64 t.f0, .string t.f1, .string t.f2, .int .i64 t.f3, .slice A t.f4.length c] 29)) (.cells #[.int .i64 u.f0, .string u.f1, .string u.f2, .int .i64 u.f3, .slice B u.f4.length d] 29))
  have HT := Lib.hid (blk_alloc ((show ((w.alloc (.cells #[.slice a.AW s.W.length a.cW, .slice a.AI a.nI a.cI, .slice a.AN a.nN a.cN, .slice a.AB s.B.length a.cB, .slice a.AV a.nV a.cV] 27)).alloc (.cells #[.int .i64 t.f0, .string t.f1, .string t.f2, .int .i64 t.f3, .slice A t.f4.length c] 29)).heap[w.heap.size + 1]? = some (.cells #[.int .i64 t.f0, .string t.f1, .string t.f2, .int .i64 t.f3, .slice A t.f4.length c] 29 (0, 0)) from blk_newH _ _ _ (by simp))) (.cells #[.int .i64 u.f0, .string u.f1, .string u.f2, .int .i64 u.f3, .slice B u.f4.length d] 29))
  have HU := Lib.hid ((show (((w.alloc (.cells #[.slice a.AW s.W.length a.cW, .slice a.AI a.nI a.cI, .slice a.AN a.nN a.cN, .slice a.AB s.B.length a.cB, .slice a.AV a.nV a.cV] 27)).alloc (.cells #[.int .i64 t.f0, .string t.f1, .string t.f2, .int .i64 t.f3, .slice A t.f4.length c] 29)).alloc (.cells #[.int .i64 u.f0, .string u.f1, .string u.f2, .int .i64 u.f3, .slice B u.f4.length d] 29)).heap[w.heap.size + 1 + 1]? = some (.cells #[.int .i64 u.f0, .string u.f1, .string u.f2, .int .i64 u.f3, .slice B u.f4.length d] 29 (0, 0)) from blk_newH _ _ _ (by simp)))
  have HSM := Lib.hid (fun (D : Option Addr) (c : Nat) (W : World) (hb : Below w.heap.size w W) (hC : Kd.C kTy W D [t, u].length [t, u]) (hl : [t, u].length ≤ c) => small_any a s [t, u] D c W (hS.c.later hb) hC hl)
  have HX := Lib.hid (And.intro hA (And.intro hc (And.intro hB hd)))
  generalize hW0 : (((w.alloc (.cells #[.slice a.AW s.W.length a.cW, .slice a.AI a.nI a.cI, .slice a.AN a.nN a.cN, .slice a.AB s.B.length a.cB, .slice a.AV a.nV a.cV] 27)).alloc (.cells #[.int .i64 t.f0, .string t.f1, .string t.f2, .int .i64 t.f3, .slice A t.f4.length c] 29)).alloc (.cells #[.int .i64 u.f0, .string u.f1, .string u.f2, .int .i64 u.f3, .slice B u.f4.length d] 29)) = W0 at *
  have QI := Lib.hid (fun (W : World) (hb : Below W0.heap.size W0 W) => iface_any a s.W s.B u B d W (hS.c.later (bel_trans HB.out hb)) ok.1)
  have QM := Lib.hid (fun (W : World) (hb : Below W0.heap.size W0 W) => methods_any a s.W s.B u B d W (hS.c.later (bel_trans HB.out hb)) ok.1 (Kd.C_below hB (bel_trans HB.out hb)) hd)
  have Q1 := Lib.hid (fun (W : World) (hb : Below W0.heap.size W0 W) => meets_any a s.W s.B t u A B c d W (hS.c.later (bel_trans HB.out hb)) ok.1 (Kd.C_below hA (bel_trans HB.out hb)) hc (Kd.C_below hB (bel_trans HB.out hb)) hd)
  have Q2 := Lib.hid (fun (W : World) (hb : Below W0.heap.size W0 W) => meets_any a s.W s.B u u B B d d W (hS.c.later (bel_trans HB.out hb)) ok.1 (Kd.C_below hB (bel_trans HB.out hb)) hd (Kd.C_below hB (bel_trans HB.out hb)) hd)
  have HP1 := Lib.hid (show ifaceP s.W u = false → meetsP s.W s.B t u = false from fun h => by unfold meetsP; rw [h, Bool.false_and])
  have HP2 := Lib.hid (show ifaceP s.W u = true → (methodsP s.W s.B u) = [] → meetsP s.W s.B t u = true from fun h h2 => by unfold meetsP; rw [h, h2]; rfl)
  have HP3 := Lib.hid (fun h1 h2 => meets_self (W := s.W) (B := s.B) (i := u) h1 h2)
  generalize ifaceP s.W u = ib at *
  generalize methodsP s.W s.B u = L at *
  generalize meetsP s.W s.B t u = m1 at *
  generalize meetsP s.W s.B u u = m2 at *
  simp only [tyV, scV] at QI QM Q1 Q2
  clear hS ok ht hu hc hd hA hB
  simp only [tyV, scV]
  go_enter Try.func6, Try.ntmps6
  go_wp2_with (fail)
  clear hW0
  refine (awake_any _).mono ?_
  rintro e1 w1 ⟨rfl, hb⟩
  replace HS := Lib.hid (blk_later hb HS.out)
  replace HT := Lib.hid (blk_later hb HT.out)
  replace HU := Lib.hid (blk_later hb HU.out)
  have HBW := Lib.hid hb
  clear hb
  have s0 := (blk_cell HS.out 0).trans rfl
  have s1 := (blk_cell HS.out 1).trans rfl
  have s2 := (blk_cell HS.out 2).trans rfl
  have s3 := (blk_cell HS.out 3).trans rfl
  have s4 := (blk_cell HS.out 4).trans rfl
  have t0 := (blk_cell HT.out 0).trans rfl
  have t1 := (blk_cell HT.out 1).trans rfl
  have t2 := (blk_cell HT.out 2).trans rfl
  have t3 := (blk_cell HT.out 3).trans rfl
  have t4 := (blk_cell HT.out 4).trans rfl
  have u0 := (blk_cell HU.out 0).trans rfl
  have u1 := (blk_cell HU.out 1).trans rfl
  have u2 := (blk_cell HU.out 2).trans rfl
  have u3 := (blk_cell HU.out 3).trans rfl
  have u4 := (blk_cell HU.out 4).trans rfl
  go_wp2_with (fail)
  have HR := Lib.hid (blk_new w1 (.cells #[.int .i64 t.f0, .string t.f1, .string t.f2, .int .i64 t.f3, .slice A t.f4.length c, .int .i64 u.f0, .string u.f1, .string u.f2, .int .i64 u.f3, .slice B u.f4.length d] 29))
  have HB2 := Lib.hid (bel_alloc HBW.out (.cells #[.int .i64 t.f0, .string t.f1, .string t.f2, .int .i64 t.f3, .slice A t.f4.length c, .int .i64 u.f0, .string u.f1, .string u.f2, .int .i64 u.f3, .slice B u.f4.length d] 29))
  have HSM2 := Lib.hid (HSM.out (some ⟨w1.heap.size, 0, none⟩) 2 (w1.alloc (.cells #[.int .i64 t.f0, .string t.f1, .string t.f2, .int .i64 t.f3, .slice A t.f4.length c, .int .i64 u.f0, .string u.f1, .string u.f2, .int .i64 u.f3, .slice B u.f4.length d] 29)) (bel_trans HB.out HB2.out) (C_ty2 HR.out (Kd.C_below HX.out.1 (bel_trans HB.out HB2.out)) HX.out.2.1 (Kd.C_below HX.out.2.2.1 (bel_trans HB.out HB2.out)) HX.out.2.2.2) (Nat.le_refl 2))
  clear HSM
  have HSa := Lib.hid (blk_alloc HS.out (.cells #[.int .i64 t.f0, .string t.f1, .string t.f2, .int .i64 t.f3, .slice A t.f4.length c, .int .i64 u.f0, .string u.f1, .string u.f2, .int .i64 u.f3, .slice B u.f4.length d] 29))
  have HTa := Lib.hid (blk_alloc HT.out (.cells #[.int .i64 t.f0, .string t.f1, .string t.f2, .int .i64 t.f3, .slice A t.f4.length c, .int .i64 u.f0, .string u.f1, .string u.f2, .int .i64 u.f3, .slice B u.f4.length d] 29))
  have HUa := Lib.hid (blk_alloc HU.out (.cells #[.int .i64 t.f0, .string t.f1, .string t.f2, .int .i64 t.f3, .slice A t.f4.length c, .int .i64 u.f0, .string u.f1, .string u.f2, .int .i64 u.f3, .slice B u.f4.length d] 29))
  clear HS HT HU HR s0 s1 s2 s3 s4 t0 t1 t2 t3 t4 u0 u1 u2 u3 u4
  refine HSM2.out.mono ?_
  rintro e2 w2 ⟨r, rfl, hb⟩
  have HS := Lib.hid (blk_later hb HSa.out)
  have HT := Lib.hid (blk_later hb HTa.out)
  have HU := Lib.hid (blk_later hb HUa.out)
  replace HBW := Lib.hid (bel_trans HB2.out hb)
  clear hb HSM2 HSa HTa HUa HB2
  cases r with
  | false =>
    go_wp2_with (fail)
    go_ret
    exact ⟨rfl, bel_trans HB.out HBW.out⟩
  | true =>
    have s0 := (blk_cell HS.out 0).trans rfl
    have s1 := (blk_cell HS.out 1).trans rfl
    have s2 := (blk_cell HS.out 2).trans rfl
    have s3 := (blk_cell HS.out 3).trans rfl
    have s4 := (blk_cell HS.out 4).trans rfl
    have u0 := (blk_cell HU.out 0).trans rfl
    have u1 := (blk_cell HU.out 1).trans rfl
    have u2 := (blk_cell HU.out 2).trans rfl
    have u3 := (blk_cell HU.out 3).trans rfl
    have u4 := (blk_cell HU.out 4).trans rfl
    go_wp2_with (fail)
    refine (QI.out _ HBW.out).mono ?_
    rintro e5 w5 ⟨rfl, hb⟩
    replace HS := Lib.hid (blk_later hb HS.out)
    replace HT := Lib.hid (blk_later hb HT.out)
    replace HU := Lib.hid (blk_later hb HU.out)
    replace HBW := Lib.hid (bel_trans HBW.out hb)
    clear hb s0 s1 s2 s3 s4 u0 u1 u2 u3 u4
    have s0 := (blk_cell HS.out 0).trans rfl
    have s1 := (blk_cell HS.out 1).trans rfl
    have s2 := (blk_cell HS.out 2).trans rfl
    have s3 := (blk_cell HS.out 3).trans rfl
    have s4 := (blk_cell HS.out 4).trans rfl
    have u0 := (blk_cell HU.out 0).trans rfl
    have u1 := (blk_cell HU.out 1).trans rfl
    have u2 := (blk_cell HU.out 2).trans rfl
    have u3 := (blk_cell HU.out 3).trans rfl
    have u4 := (blk_cell HU.out 4).trans rfl
    go_wp2_with (fail)
    refine (QM.out _ HBW.out).mono ?_
    rintro e5 w5 ⟨D1, x1, rfl, hl, hC, hb⟩
    have HL := Lib.hid hC
    have HLX := Lib.hid hl
    have hlm : L.length ≤ 9223372036854775807 := hC.2.1
    clear hl hC
    replace HS := Lib.hid (blk_later hb HS.out)
    replace HT := Lib.hid (blk_later hb HT.out)
    replace HU := Lib.hid (blk_later hb HU.out)
    replace HBW := Lib.hid (bel_trans HBW.out hb)
    clear hb s0 s1 s2 s3 s4 u0 u1 u2 u3 u4
    cases ib with
    | false =>
      have hm1 : m1 = false := HP1.out rfl
      subst hm1
      have s0 := (blk_cell HS.out 0).trans rfl
      have s1 := (blk_cell HS.out 1).trans rfl
      have s2 := (blk_cell HS.out 2).trans rfl
      have s3 := (blk_cell HS.out 3).trans rfl
      have s4 := (blk_cell HS.out 4).trans rfl
      have t0 := (blk_cell HT.out 0).trans rfl
      have t1 := (blk_cell HT.out 1).trans rfl
      have t2 := (blk_cell HT.out 2).trans rfl
      have t3 := (blk_cell HT.out 3).trans rfl
      have t4 := (blk_cell HT.out 4).trans rfl
      have u0 := (blk_cell HU.out 0).trans rfl
      have u1 := (blk_cell HU.out 1).trans rfl
      have u2 := (blk_cell HU.out 2).trans rfl
      have u3 := (blk_cell HU.out 3).trans rfl
      have u4 := (blk_cell HU.out 4).trans rfl
      go_wp2_with (fail)
      refine (Q1.out _ HBW.out).mono ?_
      rintro e5 w5 ⟨rfl, hb⟩
      replace HS := Lib.hid (blk_later hb HS.out)
      replace HT := Lib.hid (blk_later hb HT.out)
      replace HU := Lib.hid (blk_later hb HU.out)
      replace HBW := Lib.hid (bel_trans HBW.out hb)
      clear hb s0 s1 s2 s3 s4 t0 t1 t2 t3 t4 u0 u1 u2 u3 u4
      go_wp2_with (fail)
      go_ret
      exact ⟨rfl, bel_trans HB.out HBW.out⟩
    | true =>
    by_cases hL : L = []
    · have hm1 : m1 = true := HP2.out rfl hL
      subst hm1 hL
      have z1 : (([] : List Mth).length == 0) = true := rfl
      have z2 : ((([] : List Mth).length : Int) == 0) = true := rfl
      have s0 := (blk_cell HS.out 0).trans rfl
      have s1 := (blk_cell HS.out 1).trans rfl
      have s2 := (blk_cell HS.out 2).trans rfl
      have s3 := (blk_cell HS.out 3).trans rfl
      have s4 := (blk_cell HS.out 4).trans rfl
      have t0 := (blk_cell HT.out 0).trans rfl
      have t1 := (blk_cell HT.out 1).trans rfl
      have t2 := (blk_cell HT.out 2).trans rfl
      have t3 := (blk_cell HT.out 3).trans rfl
      have t4 := (blk_cell HT.out 4).trans rfl
      have u0 := (blk_cell HU.out 0).trans rfl
      have u1 := (blk_cell HU.out 1).trans rfl
      have u2 := (blk_cell HU.out 2).trans rfl
      have u3 := (blk_cell HU.out 3).trans rfl
      have u4 := (blk_cell HU.out 4).trans rfl
      go_wp2_with (fail)
      refine (Q1.out _ HBW.out).mono ?_
      rintro e5 w5 ⟨rfl, hb⟩
      replace HS := Lib.hid (blk_later hb HS.out)
      replace HT := Lib.hid (blk_later hb HT.out)
      replace HU := Lib.hid (blk_later hb HU.out)
      replace HBW := Lib.hid (bel_trans HBW.out hb)
      clear hb s0 s1 s2 s3 s4 t0 t1 t2 t3 t4 u0 u1 u2 u3 u4
      go_wp2_with (fail)
      go_ret
      exact ⟨rfl, bel_trans HB.out HBW.out⟩
    · have hL0 : ¬ L.length = 0 := fun h => hL (List.eq_nil_of_length_eq_zero h)
      have z1 : (L.length == 0) = false := beq_eq_false_iff_ne.2 hL0
      have z2 : ((L.length : Int) == 0) = false := beq_eq_false_iff_ne.2 (by omega)
      clear hL hL0
      go_wp2_with (fail)
      have HW3 : ∃ w3 : World, w3 = w5 := ⟨_, rfl⟩
      obtain ⟨w3, hw3⟩ := HW3
      subst hw3
      have HWW := Lib.hid (Below.refl w3.heap.size w3)
      clear z1 z2
      go_loopw [13] (fun vi wr => ∃ k : Nat, vi = .int .i64 k ∧ Hid (k ≤ L.length ∧ Dist L k) ∧ Hid (Below w3.heap.size w3 wr)) (fun vi _ => L.length - (intOf vi).toNat)
      case atStart => exact ⟨0, rfl, Lib.hid ⟨Nat.zero_le _, fun k n x y h1 h2 => by omega⟩, HWW⟩
      case round =>
        clear HWW
        obtain ⟨k, rfl, HK, HWW⟩ := hrel
        by_cases hlt : k < L.length
        · obtain ⟨x, hx⟩ : ∃ x, L[k]? = some x := ⟨_, List.getElem?_eq_getElem hlt⟩
          obtain ⟨ax, B1, g1, B6, g6, hAx, x0, _⟩ := at_T50 HL.out (k : Int) (by omega) (by omega)
          rw [show rd_T50 L (k : Int) = x from by unfold rd_T50; rw [Int.toNat_natCast, List.getD_eq_getElem?_getD, hx]; rfl] at x0
          rw [Int.toNat_natCast] at x0
          subst hAx
          have HX0 := Lib.hid x0
          have HXX := Lib.hid hx
          have i0 : 0 ≤ (k : Int) := by omega
          have i1 : (k : Int) < L.length := by omega
          have HLT := Lib.hid hlt
          have HWo := HWW
          clear hx x0 HWW
          go_wp2_with (fail)
          go_loopw [14] (fun vi wr => ∃ n : Nat, vi = .int .i64 n ∧ Hid (n ≤ k ∧ ∀ m y, m < n → L[m]? = some y → ¬ y.f0 = x.f0) ∧ Hid (Below w3.heap.size w3 wr)) (fun vi _ => k - (intOf vi).toNat)
          case atStart => exact ⟨0, rfl, Lib.hid ⟨Nat.zero_le _, fun m y h => by omega⟩, HWo⟩
          case round =>
            clear HWo
            obtain ⟨n, rfl, HN, HWW⟩ := hrel
            have x0 := cell_later HWW.out HX0.out
            by_cases hn : n < k
            · obtain ⟨y, hy⟩ : ∃ y, L[n]? = some y := ⟨_, List.getElem?_eq_getElem (by omega)⟩
              obtain ⟨ay, C1, h1, C6, h6, hAy, y0, _⟩ := at_T50 HL.out (n : Int) (by omega) (by omega)
              rw [show rd_T50 L (n : Int) = y from by unfold rd_T50; rw [Int.toNat_natCast, List.getD_eq_getElem?_getD, hy]; rfl] at y0
              rw [Int.toNat_natCast] at y0
              have hay : ax = ay := Option.some.inj hAy
              subst hay
              replace y0 := cell_later HWW.out y0
              have j0 : 0 ≤ (n : Int) := by omega
              have j1 : (n : Int) < L.length := by omega
              have HLN := Lib.hid hn
              have HY := Lib.hid hy
              clear hy hAy
              by_cases hq : y.f0 = x.f0
              · rw [hq] at y0
                clear hq
                go_wp2_with (fail)
                go_quiet (fail)
                go_wp2_with (fail)
                go_ret
                exact ⟨rfl, bel_trans HB.out (bel_trans HBW.out (bel_drewN HWW.out _))⟩
              · have e0 := ba_ne hq
                have e1 := ba_neP hq
                have HQ := Lib.hid hq
                clear hq
                go_wp2_with (fail)
                go_quiet (fail)
                go_wp2_with (fail)
                go_roundw
                case rel => exact ⟨n + 1, by go_num, Lib.hid ⟨HLN.out, fun m z hm hz => by
                  rcases Nat.lt_or_ge m n with h | h
                  · exact HN.out.2 m z h hz
                  · obtain rfl : m = n := by omega
                    have e : y = z := Option.some.inj (HY.out.symm.trans hz)
                    rw [← e]; exact HQ.out⟩, Lib.hid (bel_drewN HWW.out _)⟩
                case measure => have := HLN.out; simp [intOf]; omega
            · obtain rfl : n = k := by have := HN.out.1; omega
              go_wp2_with (fail)
              go_roundw
              case rel => exact ⟨n + 1, by go_num, Lib.hid ⟨HLT.out, fun k' m p q hm hk hp hq => by
                  rcases Nat.lt_or_ge k' n with h | h
                  · exact HK.out.2 k' m p q hm h hp hq
                  · obtain rfl : k' = n := by omega
                    have e : x = q := Option.some.inj (HXX.out.symm.trans hq)
                    rw [← e]; exact HN.out.2 m p hm hp⟩, HWW⟩
              case measure => have := HLT.out; simp [intOf]; omega
        · obtain rfl : k = L.length := by have := HK.out.1; omega
          have hm2 : m2 = true := HP3.out (by simp) HK.out.2
          subst hm2
          replace HBW := Lib.hid (bel_trans HBW.out HWW.out)
          replace HS := Lib.hid (blk_later HWW.out HS.out)
          replace HU := Lib.hid (blk_later HWW.out HU.out)
          have s0 := (blk_cell HS.out 0).trans rfl
          have s1 := (blk_cell HS.out 1).trans rfl
          have s2 := (blk_cell HS.out 2).trans rfl
          have s3 := (blk_cell HS.out 3).trans rfl
          have s4 := (blk_cell HS.out 4).trans rfl
          have u0 := (blk_cell HU.out 0).trans rfl
          have u1 := (blk_cell HU.out 1).trans rfl
          have u2 := (blk_cell HU.out 2).trans rfl
          have u3 := (blk_cell HU.out 3).trans rfl
          have u4 := (blk_cell HU.out 4).trans rfl
          go_wp2_with (fail)
          refine (Q2.out _ HBW.out).mono ?_
          rintro e5 w5 ⟨rfl, hb⟩
          replace HS := Lib.hid (blk_later hb HS.out)
          replace HU := Lib.hid (blk_later hb HU.out)
          replace HBW := Lib.hid (bel_trans HBW.out hb)
          clear hb s0 s1 s2 s3 s4 u0 u1 u2 u3 u4
          go_wp2_with (fail)
          go_ret
          exact ⟨rfl, bel_trans HB.out HBW.out⟩
end Go.Proofs.Ytbhagjhhgmmcgaa
