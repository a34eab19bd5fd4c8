/- LexSplits. -/
import Derived.Test.YtlmggfbpdciioaaDoorLxJ
namespace Go.Proofs.YtlmggfbpdciioaaDoor
open Go.RowKit PRef Go.Proofs.YtlmggfbpdciioaaDoorW.PrintWords
set_option linter.unusedVariables false

theorem ba_app (x y : ByteArray) : (x ++ y).data.toList = x.data.toList ++ y.data.toList := by simp

/-- Tokens of a text ahead of another one. -/
theorem tk_ahead (s S : ByteArray) (y : List UInt8) (hS : S.data.toList = s.data.toList ++ y) (t : Tk) (h1 : t.at_ ≤ t.en) (h2 : t.en ≤ s.size) : (tkS S t).f3 = (tkS s t).f3 := by
  apply ba_ext
  rw [tk_bytes, tk_bytes]
  unfold byts
  rw [hS, List.drop_append_of_le_length (by rw [len_toList]; omega), List.take_append_of_le_length (by rw [List.length_drop, len_toList]; omega)]
/-- Tokens of a text behind another one. -/
theorem tk_behind (o S : ByteArray) (x : List UInt8) (hS : S.data.toList = x ++ o.data.toList) (t : Tk) : (tkS S (shift x.length t)).f3 = (tkS o t).f3 := by
  apply ba_ext
  rw [tk_bytes, tk_bytes]
  unfold byts shift
  simp only
  rw [hS, show t.at_ + x.length = x.length + t.at_ by omega, ← List.drop_drop, List.drop_left, show t.en + x.length - (x.length + t.at_) = t.en - t.at_ by omega]

theorem split_law (s o S : ByteArray) (hS : S.data.toList = s.data.toList ++ 10 :: o.data.toList) (hs : s.size ≤ 2000) (ho : o.size ≤ 2000) (T U : List Tk) (f : Option (Nat × Nat)) (h1 : Lx 0 0 s.data.toList T none) (h2 : Lx 0 0 o.data.toList U f) :
    Lx 0 0 S.data.toList (T.dropLast ++ U.map (shift (s.size + 1))) (f.map fun p => (p.1 + (s.size + 1), p.2)) ∧ (T.dropLast.map (tkS S)).map (fun x => (x.f0, x.f3)) = (T.dropLast.map (tkS s)).map (fun x => (x.f0, x.f3)) ∧
      ((U.map (shift (s.size + 1))).map (tkS S)).map (fun x => (x.f0, x.f3)) = (U.map (tkS o)).map (fun x => (x.f0, x.f3)) := by
  have hl := lx_len h1
  rw [len_toList] at hl
  obtain ⟨T0, hT0, hin⟩ := lx_last h1 rfl
  have hTl : T.length = T0.length + 1 := by rw [hT0]; simp
  have hd : T.dropLast = T0 := by rw [hT0]; simp
  refine ⟨?_, ?_, ?_⟩
  · rw [hS]
    refine lx_split h1 o.data.toList rfl _ _ ?_
    rw [len_toList]
    have h3 := lx_shift (s.size + 1) h2
    have h4 := lx_count h3 (by rw [len_toList]; omega) (0 + T.length - 1) (by rw [len_toList]; omega)
    have e : 0 + s.size + 1 = 0 + (s.size + 1) := by omega
    rw [e]
    exact h4
  · rw [hd, List.map_map, List.map_map]
    apply List.map_congr_left
    intro t ht
    have := hin t ht
    rw [len_toList] at this
    simp only [Function.comp, Prod.mk.injEq]
    exact ⟨rfl, tk_ahead s S _ hS t (by omega) (by omega)⟩
  · rw [List.map_map, List.map_map, List.map_map]
    apply List.map_congr_left
    intro t _
    simp only [Function.comp, Prod.mk.injEq]
    refine ⟨rfl, ?_⟩
    have := tk_behind o S (s.data.toList ++ [10]) (by rw [hS]; simp) t
    have hz : (s.data.toList ++ ([10] : List UInt8)).length = s.size + 1 := by simp
    rw [hz] at this
    exact this

theorem all_none (s : ByteArray) (hs : s.size ≤ 9223372036854775806) (T : List Tk) (hL : Lx 0 0 s.data.toList T none) (L : List S31) (hE : T.map (tkS s) = L) (w : World) (ht : Tab w) :
    Calls Tryd.prog 15 #[.string s] w fun r W => ∃ A c, r = .returned (.tuple #[.slice A L.length c, .agg #[.int .i64 0, .int .i64 0]]) ∧ L.length ≤ c ∧ Kd.C k31 W A L.length L ∧ Below w.heap.size w W := by
  refine (all_c s hs w ht T none hL).mono fun r W h => ?_
  obtain ⟨A, c, h1, h2, h3, h4⟩ := h
  rw [show outT T none = T from rfl] at h1 h2 h3
  have e0 : T.length = L.length := by rw [← hE, List.length_map]
  rw [e0] at h1 h2 h3
  rw [hE] at h3
  exact ⟨A, c, h1, h2, h3, h4⟩
theorem all_some (s : ByteArray) (hs : s.size ≤ 9223372036854775806) (T : List Tk) (a b : Nat) (z : Int) (hz : (a : Int) = z) (hL : Lx 0 0 s.data.toList T (some (a, b))) (w : World) (ht : Tab w) :
    Calls Tryd.prog 15 #[.string s] w fun r W => ∃ A c, r = .returned (.tuple #[.slice A 0 c, .agg #[.int .i64 z, .int .i64 (b : Int)]]) ∧ Below w.heap.size w W := by
  refine (all_c s hs w ht T _ hL).mono fun r W h => ?_
  obtain ⟨A, c, h1, h2, h3, h4⟩ := h
  subst hz
  exact ⟨A, c, h1, h4⟩

/-- alike, met behind draws. -/
theorem alike_at (w : World) (n : Nat) (A0 : Option Addr) (c0 : Nat) (l0 : List S31) (A1 : Option Addr) (c1 : Nat) (l1 : List S31) (i j k : Nat) (hi : l0.length = i) (hj : l1.length = j) (hr0 : Kd.C k31 w A0 l0.length l0) (hc0 : l0.length ≤ c0) (hr1 : Kd.C k31 w A1 l1.length l1) (hc1 : l1.length ≤ c1) (h : quoinlaw02_alike.f k l0 l1 = some true) :
    Calls Tryd.prog 22 #[.slice A0 i c0, .slice A1 j c1] (w.drewN n) fun e w' => e = .returned (.bool true) ∧ ∃ m, w' = (w.drewN n).drewN m := by
  subst hi hj
  have hb : Below w.heap.size w (w.drewN n) := (Drawn0.mk ⟨n, rfl⟩ : Drawn0 w (w.drewN n)).below
  refine (quoinlaw02_alike.calls k A0 c0 l0 A1 c1 l1 true _ (Kd.C_below hr0 hb) hc0 (Kd.C_below hr1 hb) hc1 h).mono fun e w' h => ?_
  exact ⟨h.1, h.2.out⟩

set_option maxRecDepth 100000 in
set_option maxHeartbeats 4000000 in
theorem lexSplits_any (s o : ByteArray) (hs : s.size ≤ 140737488351232) (ho : o.size ≤ 140737488351232) (w : World) (ht : Tab w) : Calls Tryd.prog 8 #[.string s, .string o] w fun e w' => e = .returned (.bool true) ∧ Below w.heap.size w w' := by
  have H0 := Lib.hid (awake_any w ht)
  have HT := Lib.hid ht
  clear ht
  by_cases h2 : s.size ≤ 2000 ∧ o.size ≤ 2000
  · obtain ⟨h2s, h2o⟩ := h2
    obtain ⟨T, e, hL⟩ := lx_total 0 0 s.data.toList
    obtain ⟨U, f, hL2⟩ := lx_total 0 0 o.data.toList
    have g1 := fun w ht => all_c s (by omega) w ht T e hL
    have g2 := fun w ht => all_c o (by omega) w ht U f hL2
    have i1 : ¬ (2000 : Int) < (s.size : Int) := by omega
    have i2 : ¬ (2000 : Int) < (o.size : Int) := by omega
    cases e with
    | some x =>
      obtain ⟨da, dc⟩ := x
      have hdc : dc ≠ 0 := (lx_err hL da dc rfl).2.2
      have hne : ((dc : Int) != 0) = true := by simpa using hdc
      have H1 := Lib.hid g1
      have H2 := Lib.hid g2
      clear g1 g2 hL hL2 hdc
      unfold outA outC at H1
      go_enter Tryd.func8, Tryd.ntmps8
      go_wp2_with (fail)
      refine H0.out.mono ?_
      rintro e1 w1 ⟨rfl, hb1⟩
      have HB1 := Lib.hid hb1
      have HT1 := Lib.hid (HT.out.later hb1)
      clear hb1
      go_wp2_with (fail)
      refine (H1.out _ HT1.out).mono ?_
      rintro e2 w2 ⟨A, c, rfl, hc, hC, hb2⟩
      have HB2 := Lib.hid (bel_alloc (bel_trans HB1.out hb2) (.cells #[.int .i64 (da : Int), .int .i64 (dc : Int)] 25))
      have HD2 := Lib.hid (blk_new w2 (.cells #[.int .i64 (da : Int), .int .i64 (dc : Int)] 25))
      clear hc hC hb2
      go_wp2_with (fail)
      refine (H2.out _ (HT.out.later HB2.out)).mono ?_
      rintro e3 w3 ⟨B, cb, rfl, hc, hC, hb3⟩
      have HB3 := Lib.hid (bel_trans HB2.out hb3)
      have hk := blk_alloc (blk_later hb3 HD2.out) (.cells #[.int .i64 (outA f : Int), .int .i64 (outC f : Int)] 25)
      have x1 := (blk_cell hk 1).trans rfl
      clear hc hC hb3 hk
      go_wp2_with (fail)
      go_ret
      exact ⟨rfl, bel_alloc HB3.out _⟩
    | none =>
      obtain ⟨S, hS⟩ : ∃ S, S = s ++ ⟨#[10]⟩ ++ o := ⟨_, rfl⟩
      have hSl : S.data.toList = s.data.toList ++ 10 :: o.data.toList := by rw [hS, ba_app, ba_app]; simp
      have hSs : S.size ≤ 9223372036854775806 := by
        have : S.data.toList.length = S.size := len_toList S
        rw [hSl] at this
        simp at this
        omega
      obtain ⟨hL3, m1, m2⟩ := split_law s o S hSl h2s h2o T U f hL hL2
      have hL3s := hL3
      have HT0 := HT
      cases f with
      | some y =>
        obtain ⟨fa, fc⟩ := y
        have hq := lx_err hL2 fa fc rfl
        rw [len_toList] at hq
        have hfa : fa ≤ 2000 := by omega
        have hfc : fc ≠ 0 := hq.2.2
        have hne : ((fc : Int) != 0) = true := by simpa using hfc
        have H1 := Lib.hid (all_none s (by omega) T hL _ rfl)
        have H2 := Lib.hid (all_some o (by omega) U fa fc _ rfl hL2)
        have H3 := Lib.hid (all_some S hSs _ (fa + (s.size + 1)) fc ((fa : Int) + (s.size : Int) + 1) (by omega) hL3)
        have b1 : (s.size : Int) ≤ 2000 := by omega
        have b2 : (fa : Int) ≤ 2000 := by omega
        have b3 : (0 : Int) ≤ (fa : Int) := by omega
        have b4 : (0 : Int) ≤ (s.size : Int) := by omega
        subst hS
        clear hL hL2 hL3 hL3s hq hfc m1 m2 g1 g2 hSl
        go_enter Tryd.func8, Tryd.ntmps8
        go_wp2_with (fail)
        refine H0.out.mono ?_
        rintro e1 w1 ⟨rfl, hb1⟩
        have HB1 := Lib.hid hb1
        have HT1 := Lib.hid (HT.out.later hb1)
        clear hb1
        go_wp2_with (fail)
        refine (H1.out _ HT1.out).mono ?_
        rintro e2 w2 ⟨A, c, rfl, hc, hC, hb2⟩
        have HB2 := Lib.hid (bel_alloc (bel_trans HB1.out hb2) (.cells #[.int .i64 0, .int .i64 0] 25))
        have HD2 := Lib.hid (blk_new w2 (.cells #[.int .i64 0, .int .i64 0] 25))
        clear hc hC hb2
        go_wp2_with (fail)
        refine (H2.out _ (HT.out.later HB2.out)).mono ?_
        rintro e3 w3 ⟨B, cb, rfl, hb3⟩
        have HB3 := Lib.hid (bel_alloc (bel_trans HB2.out hb3) (.cells #[.int .i64 (fa : Int), .int .i64 (fc : Int)] 25))
        have HD3 := Lib.hid (blk_alloc (blk_later hb3 HD2.out) (.cells #[.int .i64 (fa : Int), .int .i64 (fc : Int)] 25))
        have HE3 := Lib.hid (blk_new w3 (.cells #[.int .i64 (fa : Int), .int .i64 (fc : Int)] 25))
        have x1 := (blk_cell HD3.out 1).trans rfl
        clear hb3
        go_wp2_with (fail)
        clear x1
        refine (H3.out _ (HT.out.later HB3.out)).mono ?_
        rintro e4 w4 ⟨C, cc, rfl, hb4⟩
        have HB4 := Lib.hid (bel_alloc (bel_trans HB3.out hb4) (.cells #[.int .i64 ((fa : Int) + (s.size : Int) + 1), .int .i64 (fc : Int)] 25))
        have hk := blk_alloc (blk_later hb4 HE3.out) (.cells #[.int .i64 ((fa : Int) + (s.size : Int) + 1), .int .i64 (fc : Int)] 25)
        have hk2 := blk_new w4 (.cells #[.int .i64 ((fa : Int) + (s.size : Int) + 1), .int .i64 (fc : Int)] 25)
        have x0 := (blk_cell hk 0).trans rfl
        have x1 := (blk_cell hk 1).trans rfl
        have y0 := (blk_cell hk2 0).trans rfl
        have y1 := (blk_cell hk2 1).trans rfl
        clear hb4 hk hk2
        go_wp2_with (fail)
        go_ret
        exact ⟨rfl, HB4.out⟩
      | none =>
        obtain ⟨nT, hnT⟩ : ∃ n, T.length = n + 1 := by
          obtain ⟨T0, h, _⟩ := lx_last hL rfl
          exact ⟨T0.length, by rw [h]; simp⟩
        have hTT : T.length ≤ 2001 := by have := (lx_len hL).1; rw [len_toList] at this; omega
        have hUU : U.length ≤ 2001 := by have := (lx_len hL2).1; rw [len_toList] at this; omega
        have q1 : (T.dropLast ++ U.map (shift (s.size + 1))).map (tkS S) = T.dropLast.map (tkS S) ++ (U.map (shift (s.size + 1))).map (tkS S) := List.map_append
        have q2 : (T.dropLast.map (tkS S)).length = nT := by rw [List.length_map, List.length_dropLast]; omega
        have q3 : ((T.map (tkS s)).take nT) = T.dropLast.map (tkS s) := by rw [← List.map_take, List.dropLast_eq_take, hnT]; rfl
        have a1 : quoinlaw02_alike.f (nT + 1) (((T.dropLast ++ U.map (shift (s.size + 1))).map (tkS S)).take nT) ((T.map (tkS s)).take nT) = some true := by
          rw [q1, List.take_append_of_le_length (by omega), List.take_of_length_le (by omega), q3, ← q2]
          exact ralike _ _ (by omega) m1
        have a2 : quoinlaw02_alike.f (U.length + 1) (((T.dropLast ++ U.map (shift (s.size + 1))).map (tkS S)).drop nT) (U.map (tkS o)) = some true := by
          rw [q1, List.drop_append_of_le_length (by omega), List.drop_eq_nil_of_le (by omega), List.nil_append]
          have := ralike _ _ (by simp; omega) m2
          rw [List.length_map, List.length_map] at this
          exact this
        have n1 : (T.map (tkS s)).length = nT + 1 := by rw [List.length_map, hnT]
        have n3 : ((T.dropLast ++ U.map (shift (s.size + 1))).map (tkS S)).length = nT + (U.map (tkS o)).length := by rw [q1, List.length_append, q2, List.length_map, List.length_map, List.length_map]
        have n2 : (U.map (tkS o)).length ≤ 2001 := by rw [List.length_map]; exact hUU
        obtain ⟨L1, hE1⟩ : ∃ L, T.map (tkS s) = L := ⟨_, rfl⟩
        obtain ⟨L2, hE2⟩ : ∃ L, U.map (tkS o) = L := ⟨_, rfl⟩
        obtain ⟨L3, hE3⟩ : ∃ L, (T.dropLast ++ U.map (shift (s.size + 1))).map (tkS S) = L := ⟨_, rfl⟩
        have H1 := Lib.hid (all_none s (by omega) T hL L1 hE1)
        have H2 := Lib.hid (all_none o (by omega) U hL2 L2 hE2)
        have H3 := Lib.hid (all_none S hSs _ hL3 L3 hE3)
        rw [hE3, hE1] at a1
        rw [hE3, hE2] at a2
        rw [hE1] at n1
        rw [hE3, hE2] at n3
        rw [hE2] at n2
        have A1 := Lib.hid a1
        have A2 := Lib.hid a2
        have N1 := Lib.hid n1
        have N2 := Lib.hid n2
        have N3 := Lib.hid n3
        have z1 : ((L1.length : Nat) : Int) - 1 = (nT : Int) := by omega
        have z3 : ((L3.length : Nat) : Int) = ((L1.length : Nat) : Int) + ((L2.length : Nat) : Int) - 1 := by omega
        have z4 : (nT : Int) ≤ 2001 := by omega
        have z5 : ((L2.length : Nat) : Int) ≤ 2001 := by omega
        subst hS
        clear hL hL2 hL3 hL3s m1 m2 g1 g2 hSl a1 a2 n1 n2 n3 hE1 hE2 hE3 q1 q2 q3 hnT hTT hUU
        go_enter Tryd.func8, Tryd.ntmps8
        go_wp2_with (fail)
        refine H0.out.mono ?_
        rintro e1 w1 ⟨rfl, hb1⟩
        have HB1 := Lib.hid hb1
        have HT1 := Lib.hid (HT.out.later hb1)
        clear hb1
        go_wp2_with (fail)
        refine (H1.out _ HT1.out).mono ?_
        rintro e2 w2 ⟨A, c, rfl, hc, hC, hb2⟩
        have HB2 := Lib.hid (bel_alloc (bel_trans HB1.out hb2) (.cells #[.int .i64 0, .int .i64 0] 25))
        have HD2 := Lib.hid (blk_new w2 (.cells #[.int .i64 0, .int .i64 0] 25))
        have HL2 := Lib.hid (Kd.C_below hC (bel_alloc (Below.refl _ _) (.cells #[.int .i64 0, .int .i64 0] 25)))
        have HLC := Lib.hid hc
        clear hc hC hb2
        go_wp2_with (fail)
        refine (H2.out _ (HT.out.later HB2.out)).mono ?_
        rintro e3 w3 ⟨B, cb, rfl, hc, hC, hb3⟩
        have HB3 := Lib.hid (bel_alloc (bel_trans HB2.out hb3) (.cells #[.int .i64 0, .int .i64 0] 25))
        have HD3 := Lib.hid (blk_alloc (blk_later hb3 HD2.out) (.cells #[.int .i64 0, .int .i64 0] 25))
        have HE3 := Lib.hid (blk_new w3 (.cells #[.int .i64 0, .int .i64 0] 25))
        have HL3 := Lib.hid (Kd.C_below HL2.out (bel_alloc hb3 (.cells #[.int .i64 0, .int .i64 0] 25)))
        have HM3 := Lib.hid (Kd.C_below hC (bel_alloc (Below.refl _ _) (.cells #[.int .i64 0, .int .i64 0] 25)))
        have HMC := Lib.hid hc
        have x1 := (blk_cell HD3.out 1).trans rfl
        clear hc hC hb3
        go_wp2_with (fail)
        clear x1
        refine (H3.out _ (HT.out.later HB3.out)).mono ?_
        rintro e4 w4 ⟨C, cc, rfl, hc, hC, hb4⟩
        have HB4 := Lib.hid (bel_alloc (bel_trans HB3.out hb4) (.cells #[.int .i64 0, .int .i64 0] 25))
        have HL4 := Lib.hid (Kd.C_below HL3.out (bel_alloc hb4 (.cells #[.int .i64 0, .int .i64 0] 25)))
        have HM4 := Lib.hid (Kd.C_below HM3.out (bel_alloc hb4 (.cells #[.int .i64 0, .int .i64 0] 25)))
        have HN4 := Lib.hid (Kd.C_below hC (bel_alloc (Below.refl _ _) (.cells #[.int .i64 0, .int .i64 0] 25)))
        have HNC := Lib.hid hc
        have hk := blk_alloc (blk_later hb4 HE3.out) (.cells #[.int .i64 0, .int .i64 0] 25)
        have hk2 := blk_new w4 (.cells #[.int .i64 0, .int .i64 0] 25)
        have x1 := (blk_cell hk 1).trans rfl
        have y1 := (blk_cell hk2 1).trans rfl
        clear hc hC hb4 hk hk2
        go_wp2_with (fail)
        have c1 := HLC.out
        have c3 := HNC.out
        have m1 := N1.out
        have m3 := N3.out
        have S1 : ∀ W : World, (Instr.slice 23 (.slice A L1.length c) none (some (.int .i64 (nT : Int))) none).run Tryd.prog W = .ok (.slice A nT c) W := cut_to 23 31 .i64 Tryd.underlying23 rfl A L1.length c (nT : Int) (by omega) (by omega) c1
        have S3 : ∀ W : World, (Instr.slice 23 (.slice C L3.length cc) none (some (.int .i64 (nT : Int))) none).run Tryd.prog W = .ok (.slice C nT cc) W := cut_to 23 31 .i64 Tryd.underlying23 rfl C L3.length cc (nT : Int) (by omega) (by omega) c3
        have S4 : ∀ W : World, (Instr.slice 23 (.slice C L3.length cc) (some (.int .i64 (nT : Int))) none none).run Tryd.prog W = .ok (.slice (if cc = nT then C else C.map (·.add (nT * 4))) (L3.length - nT) (cc - nT)) W := cut_from 23 31 .i64 Tryd.underlying23 rfl 4 rfl C L3.length cc (nT : Int) (by omega) (by omega)
        have K4' := Kd.C_drop HN4.out (show nT ≤ L3.length by omega) c3
        rw [show k31.sz = 4 from rfl] at K4'
        obtain ⟨D, hD⟩ : ∃ D, (if cc = nT then C else C.map (·.add (nT * 4))) = D := ⟨_, rfl⟩
        rw [hD] at S4 K4'
        have K4 := Lib.hid K4'
        clear K4' hD
        have S1' := S1
        have S3' := S3
        have S4' := S4
        rw [← z1] at S1' S3' S4'
        have K1 := Lib.hid (Kd.C_take HL4.out (show nT ≤ L1.length by omega))
        have K3 := Lib.hid (Kd.C_take HN4.out (show nT ≤ L3.length by omega))
        have T1 : (L1.take nT).length = nT := by rw [List.length_take]; omega
        have T3 : (L3.take nT).length = nT := by rw [List.length_take]; omega
        have T4 : (L3.drop nT).length = L3.length - nT := List.length_drop
        have HT1' := Lib.hid T1
        have HT3' := Lib.hid T3
        have HT4' := Lib.hid T4
        have K5 := Lib.hid (show (L3.take nT).length ≤ cc by omega)
        have K6 := Lib.hid (show (L1.take nT).length ≤ c by omega)
        have K7 := Lib.hid (show (L3.drop nT).length ≤ cc - nT by omega)
        clear c1 m1 m3 T1 T3 T4 x1 y1
        go_quiet (first | (go_at_call 22; refine Calls.quiet_of (alike_at _ _ C cc (L3.take nT) A c (L1.take nT) nT nT (nT + 1) HT3'.out HT1'.out K3.out K5.out K1.out K6.out A1.out)))
        go_wp2_with (fail)
        refine (alike_at _ nq D (cc - nT) (L3.drop nT) B cb L2 (L3.length - nT) L2.length (U.length + 1) HT4'.out rfl K4.out K7.out HM4.out HMC.out A2.out).mono ?_
        rintro e5 w5 ⟨rfl, mq, rfl⟩
        go_wp2_with (fail)
        go_ret
        exact ⟨rfl, bel_trans HB4.out (Drawn0.below (by repeat (first | exact Drawn0.refl _ | apply Drawn0.step)))⟩
  · by_cases i1 : (2000 : Int) < (s.size : Int)
    · go_enter Tryd.func8, Tryd.ntmps8
      go_wp2_with (fail)
      refine H0.out.mono ?_
      rintro e1 w1 ⟨rfl, hb1⟩
      have HB1 := Lib.hid hb1
      clear hb1
      go_wp2_with (fail)
      go_ret
      exact ⟨rfl, HB1.out⟩
    · have i2 : (2000 : Int) < (o.size : Int) := by omega
      go_enter Tryd.func8, Tryd.ntmps8
      go_wp2_with (fail)
      refine H0.out.mono ?_
      rintro e1 w1 ⟨rfl, hb1⟩
      have HB1 := Lib.hid hb1
      clear hb1
      go_wp2_with (fail)
      go_ret
      exact ⟨rfl, HB1.out⟩
end Go.Proofs.YtlmggfbpdciioaaDoor
