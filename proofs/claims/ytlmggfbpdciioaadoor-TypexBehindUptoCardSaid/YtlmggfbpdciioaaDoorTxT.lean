/- typex: what stands behind a type does not matter. -/
import Derived.Test.YtlmggfbpdciioaaDoorTxM
import Derived.Test.YtlmggfbpdciioaaDoorTxQ
import Derived.Test.YtlmggfbpdciioaaDoorTxS
namespace Go.Proofs.YtlmggfbpdciioaaDoor
open Go.RowKit PRef Go.Proofs.YtlmggfbpdciioaaDoorW.PrintWords
set_option linter.unusedVariables false
set_option linter.unusedSimpArgs false

theorem append_toks' {ops : Array Oper} {rest : List Oper} {o : Oper} {a : Act} {Q : Exit → Act → World → Prop} {w : World} (hgd : o.guard = none) (s x : Operand)
    (ho : o.op = .call { callee := .builtin .append, args := #[s, x], argTypes := #[23, 23] }) (base : Nat) (v : Value) (xs : List S31) (hs : a.eval s = v) (hown : w.ownsRow base 31 4 v xs.length (xs.flatMap s31C))
    (A : Option Addr) (L : List S31) (m c : Nat) (hm : m = L.length) (hx : a.eval x = .slice A m c) (hC : Kd.C k31 w A L.length L) (hb : (xs.length + L.length) * 40 ≤ 140737488355328) (hbase : base ≤ w.heap.size)
    (h : ∀ v' w', w'.ownsRow base 31 4 v' (xs ++ L).length ((xs ++ L).flatMap s31C) → w.grownBy w' v.ownBlock → wpList Tryd.prog ops Q rest (a.put o.dst v') w') : wpList Tryd.prog ops Q (o :: rest) a w := by
  subst hm
  exact append_toks hgd s x ho base v xs hs hown A L c hx hC hb hbase h
theorem toks_app (l r : List S31) (h1 : ∀ t ∈ l, t.f3.size ≤ 9223372036854775807) (h2 : ∀ t ∈ r, t.f3.size ≤ 9223372036854775807) (k : Nat) : ∀ t ∈ l.take k ++ r, t.f3.size ≤ 9223372036854775807 := by
  intro t ht
  rcases List.mem_append.1 ht with h | h
  · exact h1 t (List.mem_of_mem_take h)
  · exact h2 t h
theorem info31t : (Tryd.prog.info? 31).map (fun i => (i.zero, i.size, i.bytes)) = some (some (.agg #[.int .i64 0, .int .i64 0, .int .i64 0, .string ⟨#[]⟩]), 4, 40) := by kernel_rfl

set_option maxRecDepth 100000 in
set_option maxHeartbeats 4000000 in
theorem typexBehind_any (A : Option Addr) (l : List S31) (c : Nat) (a : Int) (B : Option Addr) (r : List S31) (d : Nat) (w : World) (hc : l.length ≤ c) (hl : l.length ≤ 1048576) (hs : ∀ t ∈ l, t.f3.size ≤ 9223372036854775807) (hC : Kd.C k31 w A l.length l) (ha : (Lit.int .i64 a).wf = true)
    (hd : r.length ≤ d) (hr : r.length ≤ 1048576) (hsr : ∀ t ∈ r, t.f3.size ≤ 9223372036854775807) (hCr : Kd.C k31 w B r.length r) (ht : Tab w) :
    Calls Tryd.prog 12 #[.slice A l.length c, .int .i64 a, .slice B r.length d] w fun e w' => e = .returned (.bool true) ∧ Below w.heap.size w w' := by
  obtain ⟨i0, hi31, _, _, _⟩ := info_parts info31t
  obtain ⟨⟨x, n, xa, xb⟩, hz⟩ : ∃ z : TyR, parseP l a = z := ⟨_, rfl⟩
  have hth := thin_parse l a
  have hpe := parse_ends l a
  rw [hz] at hth hpe
  simp only at hpe hth
  have HTH := Lib.hid hth
  have HPE := Lib.hid hpe
  have H0 := Lib.hid (tawake_any w ht)
  have HS := Lib.hid hs
  have HSR := Lib.hid hsr
  have HL := Lib.hid hl
  have HLR := Lib.hid hr
  have HZ := Lib.hid hz
  have HCC := Lib.hid hc
  have HDD := Lib.hid hd
  have HC := Lib.hid hC
  have HCR := Lib.hid hCr
  clear hl ht hz hth hs hc hC hsr hr hd hCr hpe
  by_cases hxb : xb = 0
  · have hnz := HPE.out.2 hxb
    obtain ⟨hxa, ha0, hna, hnl, hM⟩ := hnz
    have HMM := Lib.hid hM
    clear hM
    subst hxb hxa
    obtain ⟨k, rfl⟩ : ∃ k : Nat, n = (k : Int) := ⟨n.toNat, by omega⟩
    have hkl : k ≤ l.length := by omega
    have hkc : (k : Int) ≤ (c : Int) := by have := HCC.out; omega
    have g1 : ¬ (k : Int) ≤ a := by omega
    have g2 : ¬ (l.length : Int) < (k : Int) := by omega
    have hlb : l.length ≤ 1048576 := HL.out
    have hrb : r.length ≤ 1048576 := HLR.out
    have hcut := cut_to (P := Tryd.prog) 23 31 .i64 Tryd.underlying23 hi31 A l.length c (k : Int) (by omega) (by omega) HCC.out
    rw [Int.toNat_natCast] at hcut
    rcases r with _ | ⟨⟨t0, t1, t2, t3⟩, r⟩
    · obtain ⟨M, hM⟩ : ∃ M, M = l.take k ++ ([] : List S31) := ⟨_, rfl⟩
      have HZ4 := Lib.hid (show parseP M a = (x, (k : Int), 0, 0) from by rw [hM]; exact HMM.out _ (by rw [List.length_append, List.length_take]; omega) (fun i h0 h1 => tok_cut l ([] : List S31) k hkl i h0 h1) (tok_cut_dot l ([] : List S31) k hkl (by simp)))
      have HML := Lib.hid (show M.length ≤ 2097152 from by rw [hM, List.length_append, List.length_take]; simp at *; omega)
      have HMS := Lib.hid (show ∀ t ∈ M, t.f3.size ≤ 9223372036854775807 from by rw [hM]; exact toks_app l ([] : List S31) HS.out HSR.out k)
      have HML2 := Lib.hid (show ((l.take k).length + (([] : List S31)).length) * 40 ≤ 140737488355328 from by rw [List.length_take]; simp at *; omega)
      have HMQ := Lib.hid hM
      clear hM
      go_enter Tryd.func12, Tryd.ntmps12
      go_wp2_with (fail)
      refine H0.out.mono ?_
      rintro e1 w1 ⟨rfl, hb1⟩
      have HB := Lib.hid hb1
      replace HC := Lib.hid (Kd.C_below HC.out hb1)
      replace HCR := Lib.hid (Kd.C_below HCR.out hb1)
      clear hb1
      have HP := Lib.hid (fun w' (hC : Kd.C k31 w' A l.length l) => parse_any A c l HS.out (by have := HL.out; omega) HCC.out a w' hC)
      go_wp2_with (fail)
      have HPP := HP.out _ HC.out
      rw [HZ.out] at HPP
      refine HPP.mono ?_
      rintro e2 w2 ⟨A2, c2, rfl, hm, hX, hb⟩
      have HBX := Lib.hid (bel_trans HB.out hb).size
      have hb2 := bel_alloc (bel_alloc hb (.cells #[.int .i64 x.f0, .int .i64 x.f1, .string x.f2, .string x.f3, .slice A2 x.f4.length c2] 38)) (.cells #[.int .i64 0, .int .i64 0] 25)
      replace HB := Lib.hid (bel_trans HB.out hb2)
      replace HC := Lib.hid (Kd.C_below HC.out hb2)
      replace HCR := Lib.hid (Kd.C_below HCR.out hb2)
      have HXF := Lib.hid (Kd.F_mono (Kd.F_alloc (Kd.F_alloc (Kd.F_bound hX) (.cells #[.int .i64 x.f0, .int .i64 x.f1, .string x.f2, .string x.f3, .slice A2 x.f4.length c2] 38)) (.cells #[.int .i64 0, .int .i64 0] 25)) (ok' := fun k => k < w2.heap.size) (fun k hk => hk.2))
      have HW2 := Lib.hid (show w.heap.size ≤ w2.heap.size from HBX.out)
      have B8 := Lib.hid (blk_alloc (blk_new w2 (.cells #[.int .i64 x.f0, .int .i64 x.f1, .string x.f2, .string x.f3, .slice A2 x.f4.length c2] 38)) (.cells #[.int .i64 0, .int .i64 0] 25))
      have B10 := Lib.hid (blk_new1 w2 (.cells #[.int .i64 x.f0, .int .i64 x.f1, .string x.f2, .string x.f3, .slice A2 x.f4.length c2] 38) (.cells #[.int .i64 0, .int .i64 0] 25))
      have HM := Lib.hid hm
      clear hb hb2 hX hm HPP
      have u0 := (blk_cell B10.out 0).trans rfl
      have u1 := (blk_cell B10.out 1).trans rfl
      have hown0 : ((((w2.alloc (.cells #[.int .i64 x.f0, .int .i64 x.f1, .string x.f2, .string x.f3, .slice A2 x.f4.length c2] 38)).alloc (.cells #[.int .i64 0, .int .i64 0] 25)).alloc (.cells #[] 31)).ownsRow (w2.heap.size + 1 + 1) 31 4 (.slice (some ⟨w2.heap.size + 1 + 1, 0, none⟩) 0 0) ([] : List S31).length (([] : List S31).flatMap s31C)) := by
        have h := World.ownsRow_made ((w2.alloc (.cells #[.int .i64 x.f0, .int .i64 x.f1, .string x.f2, .string x.f3, .slice A2 x.f4.length c2] 38)).alloc (.cells #[.int .i64 0, .int .i64 0] 25)) #[] 0 (base := ((w2.alloc (.cells #[.int .i64 x.f0, .int .i64 x.f1, .string x.f2, .string x.f3, .slice A2 x.f4.length c2] 38)).alloc (.cells #[.int .i64 0, .int .i64 0] 25)).heap.size) (e := 31) (size := 4) (Nat.le_refl _) (Nat.zero_le _) rfl
        simp only [World.size_alloc] at h
        exact h
      have HOWN0 := Lib.hid hown0
      clear hown0
      have HCT := Lib.hid (Kd.C_below (Kd.C_take HC.out hkl) (bel_alloc (Below.refl _ _) (.cells #[] 31)))
      have HLT := Lib.hid (show k = (l.take k).length by rw [List.length_take]; omega)
      have HBC := Lib.hid (And.intro (blk_alloc B8.out (.cells #[] 31)) (blk_alloc B10.out (.cells #[] 31)))
      go_wp2_with (first | (at_builtin; refine append_toks' rfl (.tmp 52) (.tmp 55) rfl (w2.heap.size + 1 + 1) (.slice (some ⟨w2.heap.size + 1 + 1, 0, none⟩) 0 0) [] rfl HOWN0.out A (l.take k) k c HLT.out rfl HCT.out (by rw [← HLT.out]; simp; omega) (by simp) ?_; intro v3 w3 hown3 hg3; have hbel3 := Below.grown (bel_alloc (Below.refl _ ((w2.alloc (.cells #[.int .i64 x.f0, .int .i64 x.f1, .string x.f2, .string x.f3, .slice A2 x.f4.length c2] 38)).alloc (.cells #[.int .i64 0, .int .i64 0] 25))) (.cells #[] 31)) hg3 (by simp) (by intro k hk; simp [Value.ownBlock] at hk; simp; omega); replace HB := Lib.hid (bel_trans HB.out hbel3); replace HC := Lib.hid (Kd.C_below HC.out hbel3); replace HCR := Lib.hid (Kd.C_below HCR.out hbel3); replace HXF := Lib.hid (Kd.F_below HXF.out hbel3); replace B8 := Lib.hid (blk_later hbel3 B8.out); replace B10 := Lib.hid (blk_later hbel3 B10.out); have HOWN3 := Lib.hid (show w3.ownsRow (w2.heap.size + 1 + 1) 31 4 v3 (l.take k).length ((l.take k).flatMap s31C) from hown3); have HG3 := Lib.hid (show w2.heap.size + 1 + 1 ≤ w3.heap.size from by have := hbel3.size; simp at this; omega); clear hown3 hg3 hbel3 HOWN0 HCT HBC u0 u1) | (at_builtin; go_loud (refine append_toks' rfl (.tmp 69) (.tmp 70) rfl (w2.heap.size + 1 + 1) v3 (l.take k) rfl HOWN3.out _ ([] : List S31) 0 d (by rfl) rfl HCR.out HML2.out HG3.out ?_); intro v4 w4 hown4 hg4; have hn3 := own_base HOWN3.out; replace HB := Lib.hid (Below.grown HB.out hg4 (by have := HB.out.size; exact this) (fun k hk => by have := hn3 k hk; have := HW2.out; omega)); replace HX := Lib.hid (Kd.F_now (Kd.F_grown HXF.out hg4 (fun k hk e => by have := hn3 k e.symm; omega))); replace B8 := Lib.hid ((hg4.block _ (blk_lt B8.out) (fun e => by have := hn3 _ e.symm; omega)).trans B8.out); replace B10 := Lib.hid ((hg4.block _ (blk_lt B10.out) (fun e => by have := hn3 _ e.symm; omega)).trans B10.out); rw [← HMQ.out] at hown4; obtain ⟨A4, c4, rfl, hc4, hC4⟩ := own_C (xs := M) hown4 (by have := HML.out; omega); have HC4 := Lib.hid hC4; have HCC4 := Lib.hid hc4; clear hown4 hg4 hn3 hC4 hc4))
      have HP4 := parse_c (A := A4) (c := c4) HMS.out (by have := HML.out; omega) HCC4.out a x k 0 0 HZ4.out
      refine (HP4.out _ HC4.out).mono ?_
      rintro e5 w5 ⟨A5, c5, rfl, hm5, hY, hb⟩
      replace HB := Lib.hid (bel_alloc (bel_alloc (bel_trans HB.out hb) (.cells #[.int .i64 x.f0, .int .i64 x.f1, .string x.f2, .string x.f3, .slice A5 x.f4.length c5] 38)) (.cells #[.int .i64 0, .int .i64 0] 25))
      replace HX := Lib.hid (Kd.C_below HX.out (bel_alloc (bel_alloc hb (.cells #[.int .i64 x.f0, .int .i64 x.f1, .string x.f2, .string x.f3, .slice A5 x.f4.length c5] 38)) (.cells #[.int .i64 0, .int .i64 0] 25)))
      have HY := Lib.hid (Kd.C_below hY (bel_alloc (bel_alloc (Below.refl _ _) (.cells #[.int .i64 x.f0, .int .i64 x.f1, .string x.f2, .string x.f3, .slice A5 x.f4.length c5] 38)) (.cells #[.int .i64 0, .int .i64 0] 25)))
      replace B8 := Lib.hid (blk_alloc (blk_alloc (blk_later hb B8.out) (.cells #[.int .i64 x.f0, .int .i64 x.f1, .string x.f2, .string x.f3, .slice A5 x.f4.length c5] 38)) (.cells #[.int .i64 0, .int .i64 0] 25))
      replace B10 := Lib.hid (blk_alloc (blk_alloc (blk_later hb B10.out) (.cells #[.int .i64 x.f0, .int .i64 x.f1, .string x.f2, .string x.f3, .slice A5 x.f4.length c5] 38)) (.cells #[.int .i64 0, .int .i64 0] 25))
      have B12 := Lib.hid (blk_alloc (blk_new w5 (.cells #[.int .i64 x.f0, .int .i64 x.f1, .string x.f2, .string x.f3, .slice A5 x.f4.length c5] 38)) (.cells #[.int .i64 0, .int .i64 0] 25))
      have B14 := Lib.hid (blk_new1 w5 (.cells #[.int .i64 x.f0, .int .i64 x.f1, .string x.f2, .string x.f3, .slice A5 x.f4.length c5] 38) (.cells #[.int .i64 0, .int .i64 0] 25))
      have HQ := Lib.hid (same_c HTH.out A2 A5 c2 c5 _ HX.out HM.out HY.out hm5)
      have z0 := (blk_cell B8.out 0).trans rfl
      have s0 := (blk_cell B12.out 0).trans rfl
      have z1 := (blk_cell B8.out 1).trans rfl
      have s1 := (blk_cell B12.out 1).trans rfl
      have z2 := (blk_cell B8.out 2).trans rfl
      have s2 := (blk_cell B12.out 2).trans rfl
      have z3 := (blk_cell B8.out 3).trans rfl
      have s3 := (blk_cell B12.out 3).trans rfl
      have z4 := (blk_cell B8.out 4).trans rfl
      have s4 := (blk_cell B12.out 4).trans rfl
      clear hb hm5 hY
      go_wp2_with (fail)
      refine HQ.out.mono ?_
      rintro e6 w6 ⟨rfl, hb⟩
      have b14 := blk_later hb B14.out
      replace HB := Lib.hid (bel_trans HB.out hb)
      clear hb z0 z1 z2 z3 z4 s0 s1 s2 s3 s4
      have s0 := (blk_cell b14 0).trans rfl
      have s1 := (blk_cell b14 1).trans rfl
      clear b14
      go_wp2_with (fail)
      go_ret
      exact ⟨by simp, HB.out⟩
    · by_cases hdot : t3 = ⟨#[46]⟩
      · subst hdot
        go_enter Tryd.func12, Tryd.ntmps12
        go_wp2_with (fail)
        refine H0.out.mono ?_
        rintro e1 w1 ⟨rfl, hb1⟩
        have HB := Lib.hid hb1
        replace HC := Lib.hid (Kd.C_below HC.out hb1)
        replace HCR := Lib.hid (Kd.C_below HCR.out hb1)
        clear hb1
        have HP := Lib.hid (fun w' (hC : Kd.C k31 w' A l.length l) => parse_any A c l HS.out (by have := HL.out; omega) HCC.out a w' hC)
        go_wp2_with (fail)
        have HPP := HP.out _ HC.out
        rw [HZ.out] at HPP
        refine HPP.mono ?_
        rintro e2 w2 ⟨A2, c2, rfl, hm, hX, hb⟩
        have HBX := Lib.hid (bel_trans HB.out hb).size
        have hb2 := bel_alloc (bel_alloc hb (.cells #[.int .i64 x.f0, .int .i64 x.f1, .string x.f2, .string x.f3, .slice A2 x.f4.length c2] 38)) (.cells #[.int .i64 0, .int .i64 0] 25)
        replace HB := Lib.hid (bel_trans HB.out hb2)
        replace HC := Lib.hid (Kd.C_below HC.out hb2)
        replace HCR := Lib.hid (Kd.C_below HCR.out hb2)
        have HXF := Lib.hid (Kd.F_mono (Kd.F_alloc (Kd.F_alloc (Kd.F_bound hX) (.cells #[.int .i64 x.f0, .int .i64 x.f1, .string x.f2, .string x.f3, .slice A2 x.f4.length c2] 38)) (.cells #[.int .i64 0, .int .i64 0] 25)) (ok' := fun k => k < w2.heap.size) (fun k hk => hk.2))
        have HW2 := Lib.hid (show w.heap.size ≤ w2.heap.size from HBX.out)
        have B8 := Lib.hid (blk_alloc (blk_new w2 (.cells #[.int .i64 x.f0, .int .i64 x.f1, .string x.f2, .string x.f3, .slice A2 x.f4.length c2] 38)) (.cells #[.int .i64 0, .int .i64 0] 25))
        have B10 := Lib.hid (blk_new1 w2 (.cells #[.int .i64 x.f0, .int .i64 x.f1, .string x.f2, .string x.f3, .slice A2 x.f4.length c2] 38) (.cells #[.int .i64 0, .int .i64 0] 25))
        have HM := Lib.hid hm
        clear hb hb2 hX hm HPP
        have u0 := (blk_cell B10.out 0).trans rfl
        have u1 := (blk_cell B10.out 1).trans rfl
        have hown0 : ((((w2.alloc (.cells #[.int .i64 x.f0, .int .i64 x.f1, .string x.f2, .string x.f3, .slice A2 x.f4.length c2] 38)).alloc (.cells #[.int .i64 0, .int .i64 0] 25)).alloc (.cells #[] 31)).ownsRow (w2.heap.size + 1 + 1) 31 4 (.slice (some ⟨w2.heap.size + 1 + 1, 0, none⟩) 0 0) ([] : List S31).length (([] : List S31).flatMap s31C)) := by
          have h := World.ownsRow_made ((w2.alloc (.cells #[.int .i64 x.f0, .int .i64 x.f1, .string x.f2, .string x.f3, .slice A2 x.f4.length c2] 38)).alloc (.cells #[.int .i64 0, .int .i64 0] 25)) #[] 0 (base := ((w2.alloc (.cells #[.int .i64 x.f0, .int .i64 x.f1, .string x.f2, .string x.f3, .slice A2 x.f4.length c2] 38)).alloc (.cells #[.int .i64 0, .int .i64 0] 25)).heap.size) (e := 31) (size := 4) (Nat.le_refl _) (Nat.zero_le _) rfl
          simp only [World.size_alloc] at h
          exact h
        have HOWN0 := Lib.hid hown0
        clear hown0
        have HCT := Lib.hid (Kd.C_below (Kd.C_take HC.out hkl) (bel_alloc (Below.refl _ _) (.cells #[] 31)))
        have HLT := Lib.hid (show k = (l.take k).length by rw [List.length_take]; omega)
        have HBC := Lib.hid (And.intro (blk_alloc B8.out (.cells #[] 31)) (blk_alloc B10.out (.cells #[] 31)))
        go_wp2_with (at_builtin; refine append_toks' rfl (.tmp 52) (.tmp 55) rfl (w2.heap.size + 1 + 1) (.slice (some ⟨w2.heap.size + 1 + 1, 0, none⟩) 0 0) [] rfl HOWN0.out A (l.take k) k c HLT.out rfl HCT.out (by rw [← HLT.out]; simp; omega) (by simp) ?_; intro v3 w3 hown3 hg3; have hbel3 := Below.grown (bel_alloc (Below.refl _ ((w2.alloc (.cells #[.int .i64 x.f0, .int .i64 x.f1, .string x.f2, .string x.f3, .slice A2 x.f4.length c2] 38)).alloc (.cells #[.int .i64 0, .int .i64 0] 25))) (.cells #[] 31)) hg3 (by simp) (by intro k hk; simp [Value.ownBlock] at hk; simp; omega); replace HB := Lib.hid (bel_trans HB.out hbel3); replace HC := Lib.hid (Kd.C_below HC.out hbel3); replace HCR := Lib.hid (Kd.C_below HCR.out hbel3); replace HXF := Lib.hid (Kd.F_below HXF.out hbel3); replace B8 := Lib.hid (blk_later hbel3 B8.out); replace B10 := Lib.hid (blk_later hbel3 B10.out); have HOWN3 := Lib.hid (show w3.ownsRow (w2.heap.size + 1 + 1) 31 4 v3 (l.take k).length ((l.take k).flatMap s31C) from hown3); have HG3 := Lib.hid (show w2.heap.size + 1 + 1 ≤ w3.heap.size from by have := hbel3.size; simp at this; omega); clear hown3 hg3 hbel3 HOWN0 HCT HBC u0 u1; go_loud (obtain ⟨bd, hB, y0, y1, y2, y3⟩ := at_T31 HCR.out 0 (by omega) (by rw [List.length_cons]; omega); subst hB; rw [show bd.add ((0 : Int).toNat * 4) = bd from if_pos rfl, show rd_T31 (⟨t0, t1, t2, ⟨#[46]⟩⟩ :: r) 0 = ⟨t0, t1, t2, ⟨#[46]⟩⟩ from rfl] at y0 y1 y2 y3; clear y0 y1 y2))
        go_ret
        exact ⟨by simp, HB.out⟩
      · obtain ⟨M, hM⟩ : ∃ M, M = l.take k ++ (⟨t0, t1, t2, t3⟩ :: r) := ⟨_, rfl⟩
        have HZ4 := Lib.hid (show parseP M a = (x, (k : Int), 0, 0) from by rw [hM]; exact HMM.out _ (by rw [List.length_append, List.length_take]; omega) (fun i h0 h1 => tok_cut l (⟨t0, t1, t2, t3⟩ :: r) k hkl i h0 h1) (tok_cut_dot l (⟨t0, t1, t2, t3⟩ :: r) k hkl (by intro t ht; cases ht; exact hdot)))
        have HML := Lib.hid (show M.length ≤ 2097152 from by rw [hM, List.length_append, List.length_take]; simp at *; omega)
        have HMS := Lib.hid (show ∀ t ∈ M, t.f3.size ≤ 9223372036854775807 from by rw [hM]; exact toks_app l (⟨t0, t1, t2, t3⟩ :: r) HS.out HSR.out k)
        have HML2 := Lib.hid (show ((l.take k).length + ((⟨t0, t1, t2, t3⟩ :: r)).length) * 40 ≤ 140737488355328 from by rw [List.length_take]; simp at *; omega)
        have HMQ := Lib.hid hM
        clear hM
        have e1 : ¬ t3.toList = (⟨#[46]⟩ : ByteArray).toList := ne_list hdot
        have e2 : (t3.toList == (⟨#[46]⟩ : ByteArray).toList) = false := beq_eq_false_iff_ne.2 e1
        have e46 : (⟨#[46]⟩ : ByteArray).toList = [46] := by rw [ByteArray.toList_eq]
        have e3 : ¬ t3.toList = [46] := e46 ▸ e1
        have e4 : (t3.toList == [46]) = false := beq_eq_false_iff_ne.2 e3
        clear e46
        clear hdot
        go_enter Tryd.func12, Tryd.ntmps12
        go_wp2_with (fail)
        refine H0.out.mono ?_
        rintro e1 w1 ⟨rfl, hb1⟩
        have HB := Lib.hid hb1
        replace HC := Lib.hid (Kd.C_below HC.out hb1)
        replace HCR := Lib.hid (Kd.C_below HCR.out hb1)
        clear hb1
        have HP := Lib.hid (fun w' (hC : Kd.C k31 w' A l.length l) => parse_any A c l HS.out (by have := HL.out; omega) HCC.out a w' hC)
        go_wp2_with (fail)
        have HPP := HP.out _ HC.out
        rw [HZ.out] at HPP
        refine HPP.mono ?_
        rintro e2 w2 ⟨A2, c2, rfl, hm, hX, hb⟩
        have HBX := Lib.hid (bel_trans HB.out hb).size
        have hb2 := bel_alloc (bel_alloc hb (.cells #[.int .i64 x.f0, .int .i64 x.f1, .string x.f2, .string x.f3, .slice A2 x.f4.length c2] 38)) (.cells #[.int .i64 0, .int .i64 0] 25)
        replace HB := Lib.hid (bel_trans HB.out hb2)
        replace HC := Lib.hid (Kd.C_below HC.out hb2)
        replace HCR := Lib.hid (Kd.C_below HCR.out hb2)
        have HXF := Lib.hid (Kd.F_mono (Kd.F_alloc (Kd.F_alloc (Kd.F_bound hX) (.cells #[.int .i64 x.f0, .int .i64 x.f1, .string x.f2, .string x.f3, .slice A2 x.f4.length c2] 38)) (.cells #[.int .i64 0, .int .i64 0] 25)) (ok' := fun k => k < w2.heap.size) (fun k hk => hk.2))
        have HW2 := Lib.hid (show w.heap.size ≤ w2.heap.size from HBX.out)
        have B8 := Lib.hid (blk_alloc (blk_new w2 (.cells #[.int .i64 x.f0, .int .i64 x.f1, .string x.f2, .string x.f3, .slice A2 x.f4.length c2] 38)) (.cells #[.int .i64 0, .int .i64 0] 25))
        have B10 := Lib.hid (blk_new1 w2 (.cells #[.int .i64 x.f0, .int .i64 x.f1, .string x.f2, .string x.f3, .slice A2 x.f4.length c2] 38) (.cells #[.int .i64 0, .int .i64 0] 25))
        have HM := Lib.hid hm
        clear hb hb2 hX hm HPP
        have u0 := (blk_cell B10.out 0).trans rfl
        have u1 := (blk_cell B10.out 1).trans rfl
        have hown0 : ((((w2.alloc (.cells #[.int .i64 x.f0, .int .i64 x.f1, .string x.f2, .string x.f3, .slice A2 x.f4.length c2] 38)).alloc (.cells #[.int .i64 0, .int .i64 0] 25)).alloc (.cells #[] 31)).ownsRow (w2.heap.size + 1 + 1) 31 4 (.slice (some ⟨w2.heap.size + 1 + 1, 0, none⟩) 0 0) ([] : List S31).length (([] : List S31).flatMap s31C)) := by
          have h := World.ownsRow_made ((w2.alloc (.cells #[.int .i64 x.f0, .int .i64 x.f1, .string x.f2, .string x.f3, .slice A2 x.f4.length c2] 38)).alloc (.cells #[.int .i64 0, .int .i64 0] 25)) #[] 0 (base := ((w2.alloc (.cells #[.int .i64 x.f0, .int .i64 x.f1, .string x.f2, .string x.f3, .slice A2 x.f4.length c2] 38)).alloc (.cells #[.int .i64 0, .int .i64 0] 25)).heap.size) (e := 31) (size := 4) (Nat.le_refl _) (Nat.zero_le _) rfl
          simp only [World.size_alloc] at h
          exact h
        have HOWN0 := Lib.hid hown0
        clear hown0
        have HCT := Lib.hid (Kd.C_below (Kd.C_take HC.out hkl) (bel_alloc (Below.refl _ _) (.cells #[] 31)))
        have HLT := Lib.hid (show k = (l.take k).length by rw [List.length_take]; omega)
        have HBC := Lib.hid (And.intro (blk_alloc B8.out (.cells #[] 31)) (blk_alloc B10.out (.cells #[] 31)))
        go_wp2_with (first | (at_builtin; refine append_toks' rfl (.tmp 52) (.tmp 55) rfl (w2.heap.size + 1 + 1) (.slice (some ⟨w2.heap.size + 1 + 1, 0, none⟩) 0 0) [] rfl HOWN0.out A (l.take k) k c HLT.out rfl HCT.out (by rw [← HLT.out]; simp; omega) (by simp) ?_; intro v3 w3 hown3 hg3; have hbel3 := Below.grown (bel_alloc (Below.refl _ ((w2.alloc (.cells #[.int .i64 x.f0, .int .i64 x.f1, .string x.f2, .string x.f3, .slice A2 x.f4.length c2] 38)).alloc (.cells #[.int .i64 0, .int .i64 0] 25))) (.cells #[] 31)) hg3 (by simp) (by intro k hk; simp [Value.ownBlock] at hk; simp; omega); replace HB := Lib.hid (bel_trans HB.out hbel3); replace HC := Lib.hid (Kd.C_below HC.out hbel3); replace HCR := Lib.hid (Kd.C_below HCR.out hbel3); replace HXF := Lib.hid (Kd.F_below HXF.out hbel3); replace B8 := Lib.hid (blk_later hbel3 B8.out); replace B10 := Lib.hid (blk_later hbel3 B10.out); have HOWN3 := Lib.hid (show w3.ownsRow (w2.heap.size + 1 + 1) 31 4 v3 (l.take k).length ((l.take k).flatMap s31C) from hown3); have HG3 := Lib.hid (show w2.heap.size + 1 + 1 ≤ w3.heap.size from by have := hbel3.size; simp at this; omega); clear hown3 hg3 hbel3 HOWN0 HCT HBC u0 u1; go_loud (obtain ⟨bd, hB, y0, y1, y2, y3⟩ := at_T31 HCR.out 0 (by omega) (by rw [List.length_cons]; omega); subst hB; rw [show bd.add ((0 : Int).toNat * 4) = bd from if_pos rfl, show rd_T31 (⟨t0, t1, t2, t3⟩ :: r) 0 = ⟨t0, t1, t2, t3⟩ from rfl] at y0 y1 y2 y3; clear y0 y1 y2)) | (at_builtin; go_loud (refine append_toks' rfl (.tmp 69) (.tmp 70) rfl (w2.heap.size + 1 + 1) v3 (l.take k) rfl HOWN3.out _ (⟨t0, t1, t2, t3⟩ :: r) (r.length + 1) d (by rfl) rfl HCR.out HML2.out HG3.out ?_); intro v4 w4 hown4 hg4; have hn3 := own_base HOWN3.out; replace HB := Lib.hid (Below.grown HB.out hg4 (by have := HB.out.size; exact this) (fun k hk => by have := hn3 k hk; have := HW2.out; omega)); replace HX := Lib.hid (Kd.F_now (Kd.F_grown HXF.out hg4 (fun k hk e => by have := hn3 k e.symm; omega))); replace B8 := Lib.hid ((hg4.block _ (blk_lt B8.out) (fun e => by have := hn3 _ e.symm; omega)).trans B8.out); replace B10 := Lib.hid ((hg4.block _ (blk_lt B10.out) (fun e => by have := hn3 _ e.symm; omega)).trans B10.out); rw [← HMQ.out] at hown4; obtain ⟨A4, c4, rfl, hc4, hC4⟩ := own_C (xs := M) hown4 (by have := HML.out; omega); have HC4 := Lib.hid hC4; have HCC4 := Lib.hid hc4; clear hown4 hg4 hn3 hC4 hc4))
        have HP4 := parse_c (A := A4) (c := c4) HMS.out (by have := HML.out; omega) HCC4.out a x k 0 0 HZ4.out
        refine (HP4.out _ HC4.out).mono ?_
        rintro e5 w5 ⟨A5, c5, rfl, hm5, hY, hb⟩
        replace HB := Lib.hid (bel_alloc (bel_alloc (bel_trans HB.out hb) (.cells #[.int .i64 x.f0, .int .i64 x.f1, .string x.f2, .string x.f3, .slice A5 x.f4.length c5] 38)) (.cells #[.int .i64 0, .int .i64 0] 25))
        replace HX := Lib.hid (Kd.C_below HX.out (bel_alloc (bel_alloc hb (.cells #[.int .i64 x.f0, .int .i64 x.f1, .string x.f2, .string x.f3, .slice A5 x.f4.length c5] 38)) (.cells #[.int .i64 0, .int .i64 0] 25)))
        have HY := Lib.hid (Kd.C_below hY (bel_alloc (bel_alloc (Below.refl _ _) (.cells #[.int .i64 x.f0, .int .i64 x.f1, .string x.f2, .string x.f3, .slice A5 x.f4.length c5] 38)) (.cells #[.int .i64 0, .int .i64 0] 25)))
        replace B8 := Lib.hid (blk_alloc (blk_alloc (blk_later hb B8.out) (.cells #[.int .i64 x.f0, .int .i64 x.f1, .string x.f2, .string x.f3, .slice A5 x.f4.length c5] 38)) (.cells #[.int .i64 0, .int .i64 0] 25))
        replace B10 := Lib.hid (blk_alloc (blk_alloc (blk_later hb B10.out) (.cells #[.int .i64 x.f0, .int .i64 x.f1, .string x.f2, .string x.f3, .slice A5 x.f4.length c5] 38)) (.cells #[.int .i64 0, .int .i64 0] 25))
        have B12 := Lib.hid (blk_alloc (blk_new w5 (.cells #[.int .i64 x.f0, .int .i64 x.f1, .string x.f2, .string x.f3, .slice A5 x.f4.length c5] 38)) (.cells #[.int .i64 0, .int .i64 0] 25))
        have B14 := Lib.hid (blk_new1 w5 (.cells #[.int .i64 x.f0, .int .i64 x.f1, .string x.f2, .string x.f3, .slice A5 x.f4.length c5] 38) (.cells #[.int .i64 0, .int .i64 0] 25))
        have HQ := Lib.hid (same_c HTH.out A2 A5 c2 c5 _ HX.out HM.out HY.out hm5)
        have z0 := (blk_cell B8.out 0).trans rfl
        have s0 := (blk_cell B12.out 0).trans rfl
        have z1 := (blk_cell B8.out 1).trans rfl
        have s1 := (blk_cell B12.out 1).trans rfl
        have z2 := (blk_cell B8.out 2).trans rfl
        have s2 := (blk_cell B12.out 2).trans rfl
        have z3 := (blk_cell B8.out 3).trans rfl
        have s3 := (blk_cell B12.out 3).trans rfl
        have z4 := (blk_cell B8.out 4).trans rfl
        have s4 := (blk_cell B12.out 4).trans rfl
        clear hb hm5 hY
        go_wp2_with (fail)
        refine HQ.out.mono ?_
        rintro e6 w6 ⟨rfl, hb⟩
        have b14 := blk_later hb B14.out
        replace HB := Lib.hid (bel_trans HB.out hb)
        clear hb z0 z1 z2 z3 z4 s0 s1 s2 s3 s4
        have s0 := (blk_cell b14 0).trans rfl
        have s1 := (blk_cell b14 1).trans rfl
        clear b14
        go_wp2_with (fail)
        go_ret
        exact ⟨by simp, HB.out⟩
  · have hnz := HPE.out.1 hxb
    obtain ⟨rfl, rfl⟩ := hnz
    have g1 : (xb == 0) = false := beq_eq_false_iff_ne.2 hxb
    have g2 : (xb != 0) = true := by simp [bne, g1]
    clear hxb
    go_enter Tryd.func12, Tryd.ntmps12
    go_wp2_with (fail)
    refine H0.out.mono ?_
    rintro e1 w1 ⟨rfl, hb1⟩
    have HB := Lib.hid hb1
    replace HC := Lib.hid (Kd.C_below HC.out hb1)
    replace HCR := Lib.hid (Kd.C_below HCR.out hb1)
    clear hb1
    have HP := Lib.hid (fun w' (hC : Kd.C k31 w' A l.length l) => parse_any A c l HS.out (by have := HL.out; omega) HCC.out a w' hC)
    go_wp2_with (fail)
    have HPP := HP.out _ HC.out
    rw [HZ.out] at HPP
    refine HPP.mono ?_
    rintro e2 w2 ⟨A2, c2, rfl, hm, hX, hb⟩
    have HBX := Lib.hid (bel_trans HB.out hb).size
    have hb2 := bel_alloc (bel_alloc hb (.cells #[.int .i64 z38.f0, .int .i64 z38.f1, .string z38.f2, .string z38.f3, .slice A2 z38.f4.length c2] 38)) (.cells #[.int .i64 xa, .int .i64 xb] 25)
    replace HB := Lib.hid (bel_trans HB.out hb2)
    replace HC := Lib.hid (Kd.C_below HC.out hb2)
    replace HCR := Lib.hid (Kd.C_below HCR.out hb2)
    have HXF := Lib.hid (Kd.F_mono (Kd.F_alloc (Kd.F_alloc (Kd.F_bound hX) (.cells #[.int .i64 z38.f0, .int .i64 z38.f1, .string z38.f2, .string z38.f3, .slice A2 z38.f4.length c2] 38)) (.cells #[.int .i64 xa, .int .i64 xb] 25)) (ok' := fun k => k < w2.heap.size) (fun k hk => hk.2))
    have HW2 := Lib.hid (show w.heap.size ≤ w2.heap.size from HBX.out)
    have B8 := Lib.hid (blk_alloc (blk_new w2 (.cells #[.int .i64 z38.f0, .int .i64 z38.f1, .string z38.f2, .string z38.f3, .slice A2 z38.f4.length c2] 38)) (.cells #[.int .i64 xa, .int .i64 xb] 25))
    have B10 := Lib.hid (blk_new1 w2 (.cells #[.int .i64 z38.f0, .int .i64 z38.f1, .string z38.f2, .string z38.f3, .slice A2 z38.f4.length c2] 38) (.cells #[.int .i64 xa, .int .i64 xb] 25))
    have HM := Lib.hid hm
    clear hb hb2 hX hm HPP
    have u1 := (blk_cell B10.out 1).trans rfl
    have x0 := (blk_cell B8.out 0).trans rfl
    have x4 := (blk_cell B8.out 4).trans rfl
    simp only [z38, List.length_nil] at x0 x4
    go_wp2_with (fail)
    go_ret
    exact ⟨rfl, HB.out⟩
end Go.Proofs.YtlmggfbpdciioaaDoor
