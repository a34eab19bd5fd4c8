/- LexCovers. -/
import Derived.Test.YtlmggfbpdciioaaDoorLxL
namespace Go.Proofs.YtlmggfbpdciioaaDoor
open Go.RowKit PRef Go.Proofs.YtlmggfbpdciioaaDoorW.PrintWords
set_option linter.unusedVariables false
set_option linter.unusedSimpArgs false

/-- Skip, met behind draws. -/
theorem skip_at (w : World) (n : Nat) (s : ByteArray) (hs : s.size ≤ 9223372036854775806) (a b : Nat) (ha : a ≤ b) (hb : b ≤ s.size) (h : a + skipN false ((s.data.toList.take b).drop a) = b) :
    Calls Tryd.prog 20 #[.string (s.extract 0 b), .int .i64 (a : Int)] (w.drewN n) fun e w' => e = .returned (.int .i64 (b : Int)) ∧ ∃ m, w' = (w.drewN n).drewN m := by
  have hz : (s.extract 0 b).size = b := by rw [ByteArray.size_extract]; omega
  have hl : (s.extract 0 b).data.toList = s.data.toList.take b := by rw [Lib.extract_data]; simp
  have := rskip_f (s.extract 0 b) (by omega) (4 * (s.extract 0 b).size + 4) a (by omega) (Nat.le_refl _)
  rw [hl, h] at this
  refine (quoinref02_Skip.calls _ _ _ _ _ this).mono fun e w' h => ?_
  exact ⟨h.1, h.2.out⟩

theorem cov_get {l : List UInt8} {T : List Tk} {a i : Nat} (h : Cov l a (T.drop i)) (hi : i < T.length) : ∃ t, T[i]? = some t ∧ a ≤ t.at_ ∧ t.at_ ≤ t.en ∧ t.en ≤ l.length ∧ (t.kd = 0 ↔ i + 1 = T.length) ∧ (t.en = t.at_ ↔ t.kd = 0) ∧ a + skipN false ((l.take t.at_).drop a) = t.at_ ∧ Cov l t.en (T.drop (i + 1)) := by
  rw [List.drop_eq_getElem_cons hi] at h
  obtain ⟨h1, h2, h3, h4, h5, h6, h7⟩ := h
  refine ⟨T[i], List.getElem?_eq_getElem hi, h1, h2, h3, ?_, h5, h6, h7⟩
  rw [h4, List.drop_eq_nil_iff]
  omega
theorem rd_tk {s : ByteArray} {T : List Tk} {i : Nat} {t : Tk} (h : T[i]? = some t) : rd_T31 (T.map (tkS s)) (i : Int) = tkS s t := by
  obtain ⟨hi, rfl⟩ := List.getElem?_eq_some_iff.1 h
  rw [rd31 _ i (by rw [List.length_map]; exact hi), List.getElem_map]

set_option maxRecDepth 100000 in
set_option maxHeartbeats 4000000 in
theorem lexCovers_any (s : ByteArray) (hs : s.size ≤ 140737488351232) (w : World) (ht : Tab w) : Calls Tryd.prog 5 #[.string s] w fun e w' => e = .returned (.bool true) ∧ Below w.heap.size w w' := by
  have H0 := Lib.hid (awake_any w ht)
  have HT := Lib.hid ht
  clear ht
  obtain ⟨T, e, hL⟩ := lx_total 0 0 s.data.toList
  cases e with
  | some y =>
    obtain ⟨fa, fc⟩ := y
    have hq := lx_err hL fa fc rfl
    rw [len_toList] at hq
    have hfc : fc ≠ 0 := hq.2.2
    have hne : ¬ (fa = 0 ∧ fc = 0) := fun h => hfc h.2
    have hne' : ((fc : Int) == 0) = false := by simpa using hfc
    have b1 : decide ((fa : Int) < (s.size : Int)) = true := decide_eq_true (by omega)
    have b3 : (0 : Int) ≤ (fa : Int) := by omega
    have b0 : fa < s.size := by omega
    have H1 := Lib.hid (all_some s (by omega) T fa fc _ rfl hL)
    clear hL hq hs
    go_enter Tryd.func5, Tryd.ntmps5
    go_wp2_with (fail)
    refine H0.out.mono ?_
    rintro e1 w1 ⟨rfl, hb1⟩
    have HB1 := Lib.hid hb1
    have HT1 := Lib.hid (HT.out.later hb1)
    clear hb1
    go_wp2_with (fail)
    refine (H1.out _ HT1.out).mono ?_
    rintro e2 w2 ⟨A, c, rfl, hb2⟩
    have HB2 := Lib.hid (bel_alloc (bel_trans HB1.out hb2) (.cells #[.int .i64 (fa : Int), .int .i64 (fc : Int)] 25))
    have hk := blk_new w2 (.cells #[.int .i64 (fa : Int), .int .i64 (fc : Int)] 25)
    have x0 := (blk_cell hk 0).trans rfl
    have x1 := (blk_cell hk 1).trans rfl
    clear hb2 hk
    go_wp2_with (fail)
    go_ret
    have b2 : decide ((0 : Int) ≤ (fa : Int)) = true := decide_eq_true b3
    exact ⟨by first | rfl | (simp [Act.eval]; done) | (simp [Act.eval]; omega), HB2.out⟩
  | none =>
    have hcov := cov_of hL rfl s.data.toList rfl (Nat.zero_le _)
    have hTl := (lx_len hL).2 (by omega)
    have hT1 : 1 ≤ T.length := by obtain ⟨T0, h, _⟩ := lx_last hL rfl; rw [h]; simp
    obtain ⟨L, hE⟩ : ∃ L, T.map (tkS s) = L := ⟨_, rfl⟩
    have hlen : L.length = T.length := by rw [← hE, List.length_map]
    have H1 := Lib.hid (all_none s (by omega) T hL L hE)
    have HC := Lib.hid (show Cov s.data.toList 0 (T.drop 0) from hcov)
    have HN := Lib.hid hlen
    have HE := Lib.hid hE
    have HS := Lib.hid hs
    have HS2 := Lib.hid (show s.size ≤ 9223372036854775806 by omega)
    have HT4 := Lib.hid hTl
    have HT5 := Lib.hid hT1
    clear hL hcov hlen hE hs hTl hT1
    go_enter Tryd.func5, Tryd.ntmps5
    go_wp2_with (fail)
    refine H0.out.mono ?_
    rintro e1 w1 ⟨rfl, hb1⟩
    have HB1 := Lib.hid hb1
    have HT1 := Lib.hid (HT.out.later hb1)
    clear hb1
    go_wp2_with (fail)
    refine (H1.out _ HT1.out).mono ?_
    rintro e2 w2 ⟨A, c, rfl, hc, hC, hb2⟩
    have HB2 := Lib.hid (bel_alloc (bel_trans HB1.out hb2) (.cells #[.int .i64 0, .int .i64 0] 25))
    have HL2 := Lib.hid (Kd.C_below hC (bel_alloc (Below.refl _ _) (.cells #[.int .i64 0, .int .i64 0] 25)))
    have HLC := Lib.hid hc
    have hk := blk_new w2 (.cells #[.int .i64 0, .int .i64 0] 25)
    have x0 := (blk_cell hk 0).trans rfl
    have x1 := (blk_cell hk 1).trans rfl
    clear hc hC hb2 hk
    go_wp2_with (fail)
    clear x0 x1
    go_loopg [6, 7, 8] T.length (fun kq v6 v7 v8 w' => ∃ (a i : Nat), v6 = .int .i64 (a : Int) ∧ v7 = .int .i64 (i : Int) ∧ RowKit.Hid (kq + i = T.length ∧ Cov s.data.toList a (T.drop i) ∧ a ≤ s.size) ∧ RowKit.Hid (Below w.heap.size w w' ∧ Kd.C k31 w' A L.length L))
    case atStart => exact ⟨0, 0, rfl, rfl, Lib.hid ⟨rfl, HC.out, Nat.zero_le _⟩, Lib.hid ⟨HB2.out, HL2.out⟩⟩
    case round =>
      obtain ⟨a, i, rfl, rfl, HA, HW⟩ := hrel
      by_cases hi : i < T.length
      · obtain ⟨gk, rfl⟩ : ∃ m, gk = m + 1 := ⟨gk - 1, by have := HA.out.1; omega⟩
        obtain ⟨⟨kd, b, z⟩, ht, h1, h2, h3, h4, h5, h6, h7⟩ := cov_get HA.out.2.1 hi
        replace h1 : a ≤ b := h1
        replace h2 : b ≤ z := h2
        replace h3 : z ≤ s.data.toList.length := h3
        replace h4 : kd = 0 ↔ i + 1 = T.length := h4
        replace h5 : z = b ↔ kd = 0 := h5
        replace h6 : a + skipN false ((s.data.toList.take b).drop a) = b := h6
        replace h7 : Cov s.data.toList z (T.drop (i + 1)) := h7
        have hrd : rd_T31 L (i : Int) = tkS s ⟨kd, b, z⟩ := by rw [← HE.out]; exact rd_tk ht
        obtain ⟨ad, e, x0, x1, x2, x3⟩ := at_T31 HW.out.2 (i : Int) (by omega) (by rw [HN.out]; omega)
        rw [hrd, Int.toNat_natCast] at x0 x1 x2 x3
        replace x0 : wr.cell? (ad.add (i * 4)) = some (.int .i64 (kd : Int)) := x0
        replace x1 : wr.cell? ⟨(ad.add (i * 4)).block, (ad.add (i * 4)).off + 1, none⟩ = some (.int .i64 (b : Int)) := x1
        replace x2 : wr.cell? ⟨(ad.add (i * 4)).block, (ad.add (i * 4)).off + 2, none⟩ = some (.int .i64 (z : Int)) := x2
        replace x3 : wr.cell? ⟨(ad.add (i * 4)).block, (ad.add (i * 4)).off + 3, none⟩ = some (.string (s.extract b z)) := x3
        cases e
        rw [len_toList] at h3
        have hs4 := HS.out
        have hTl := HT4.out
        have hTn := HN.out
        have c1 : decide ((b : Int) < (a : Int)) = false := decide_eq_false (by omega)
        have c2 : decide ((z : Int) < (b : Int)) = false := decide_eq_false (by omega)
        have c3 : decide ((s.size : Int) < (z : Int)) = false := decide_eq_false (by omega)
        have z1 : (0 : Int) ≤ (b : Int) := by omega
        have z2 : (b : Int) ≤ (z : Int) := by omega
        have z3 : (z : Int) ≤ (s.size : Int) := by omega
        have z8 : (b : Int) ≤ (s.size : Int) := by omega
        have z4 : decide ((i : Int) < ((L.length : Nat) : Int)) = true := decide_eq_true (by omega)
        have z5 : (0 : Int) ≤ (i : Int) := by omega
        have z6 : (i : Int) < ((L.length : Nat) : Int) := by omega
        have z7 : (i : Int) ≤ 4001 := by omega
        have H6 := Lib.hid h6
        have H7 := Lib.hid h7
        have H1' := Lib.hid h1
        have H9 := Lib.hid (show b ≤ s.size by omega)
        have H10 := Lib.hid (show z ≤ s.size by omega)
        have HI := Lib.hid hi
        clear h6 h7 hrd ht
        by_cases hl : i + 1 = T.length
        · obtain rfl : kd = 0 := h4.2 hl
          have e0 : z = b := h5.2 rfl
          subst e0
          replace x0 : wr.cell? (ad.add (i * 4)) = some (.int .i64 0) := x0
          rw [show s.extract z z = ByteArray.empty by simp] at x3
          have e1 : ((L.length : Nat) : Int) - 1 = (i : Int) := by omega
          have hk3 := blk_new wr (.cells #[.int .i64 0, .int .i64 (z : Int), .int .i64 (z : Int), .string ByteArray.empty] 31)
          have y0 := (blk_cell hk3 0).trans rfl
          have y1 := (blk_cell hk3 1).trans rfl
          have y2 := (blk_cell hk3 2).trans rfl
          have y3 := (blk_cell hk3 3).trans rfl
          have HB := Lib.hid (bel_alloc HW.out.1 (.cells #[.int .i64 0, .int .i64 (z : Int), .int .i64 (z : Int), .string ByteArray.empty] 31))
          have HLq := Lib.hid (Kd.C_below HW.out.2 (bel_alloc (Below.refl _ _) (.cells #[.int .i64 0, .int .i64 (z : Int), .int .i64 (z : Int), .string ByteArray.empty] 31)))
          clear hk3 h2 h3 h4 h5 hs4 hTl hTn h1 hi hl
          go_wp2_with (fail)
          go_quiet (first | (go_at_call 20; refine Calls.quiet_of (skip_at _ _ s HS2.out a z H1'.out H9.out H6.out)))
          have hk4 := blk_later (Drawn0.mk ⟨nq, rfl⟩ : Drawn0 (wr.alloc (.cells #[.int .i64 0, .int .i64 (z : Int), .int .i64 (z : Int), .string ByteArray.empty] 31)) _).below (blk_new wr (.cells #[.int .i64 0, .int .i64 (z : Int), .int .i64 (z : Int), .string ByteArray.empty] 31))
          have y2' := (blk_cell hk4 2).trans rfl
          clear hk4
          go_wp2_with (fail)
          go_roundg gk
          case measure => omega
          case rel => exact ⟨z, i + 1, rfl, rfl, Lib.hid ⟨by have := HA.out.1; omega, H7.out, H10.out⟩, Lib.hid ⟨bel_trans HB.out (Drawn0.mk ⟨nq, rfl⟩ : Drawn0 _ _).below, Kd.C_below HLq.out (Drawn0.mk ⟨nq, rfl⟩ : Drawn0 _ _).below⟩⟩
        · have ew : wrap64 (((L.length : Nat) : Int) - 1) = ((L.length : Nat) : Int) - 1 := wrap_small (by omega) (by omega)
          have e7 : ¬ (i : Int) = ((L.length : Nat) : Int) - 1 := by omega
          have e1 : ((i : Int) == ((L.length : Nat) : Int) - 1) = false := beq_eq_false_iff_ne.2 (by omega)
          have k0 : ¬ kd = 0 := fun h => hl (h4.1 h)
          have e2 : ((kd : Int) == 0) = false := beq_eq_false_iff_ne.2 (by omega)
          have e3 : (kd == 0) = false := beq_eq_false_iff_ne.2 k0
          have k1 : ¬ z = b := fun h => k0 (h5.1 h)
          have e4 : ((z : Int) == (b : Int)) = false := beq_eq_false_iff_ne.2 (by omega)
          have e5 : (z == b) = false := beq_eq_false_iff_ne.2 k1
          have hk3 := blk_new wr (.cells #[.int .i64 (kd : Int), .int .i64 (b : Int), .int .i64 (z : Int), .string (s.extract b z)] 31)
          have y0 := (blk_cell hk3 0).trans rfl
          have y1 := (blk_cell hk3 1).trans rfl
          have y2 := (blk_cell hk3 2).trans rfl
          have y3 := (blk_cell hk3 3).trans rfl
          have HB := Lib.hid (bel_alloc HW.out.1 (.cells #[.int .i64 (kd : Int), .int .i64 (b : Int), .int .i64 (z : Int), .string (s.extract b z)] 31))
          have HLq := Lib.hid (Kd.C_below HW.out.2 (bel_alloc (Below.refl _ _) (.cells #[.int .i64 (kd : Int), .int .i64 (b : Int), .int .i64 (z : Int), .string (s.extract b z)] 31)))
          clear hk3 h2 h3 h4 h5 hs4 hTl hTn h1 hi hl
          go_wp2_with (fail)
          go_quiet (first | (go_at_call 20; refine Calls.quiet_of (skip_at _ _ s HS2.out a b H1'.out H9.out H6.out)))
          have hk4 := blk_later (Drawn0.mk ⟨nq, rfl⟩ : Drawn0 (wr.alloc (.cells #[.int .i64 (kd : Int), .int .i64 (b : Int), .int .i64 (z : Int), .string (s.extract b z)] 31)) _).below (blk_new wr (.cells #[.int .i64 (kd : Int), .int .i64 (b : Int), .int .i64 (z : Int), .string (s.extract b z)] 31))
          have y2' := (blk_cell hk4 2).trans rfl
          clear hk4
          go_wp2_with (fail)
          go_roundg gk
          case measure => omega
          case rel => exact ⟨z, i + 1, rfl, rfl, Lib.hid ⟨by have := HA.out.1; omega, H7.out, H10.out⟩, Lib.hid ⟨bel_trans HB.out (Drawn0.mk ⟨nq, rfl⟩ : Drawn0 _ _).below, Kd.C_below HLq.out (Drawn0.mk ⟨nq, rfl⟩ : Drawn0 _ _).below⟩⟩
      · have hTl := HT4.out
        have hTn := HN.out
        have hT1 := HT5.out
        have hr := HA.out.1
        have hcv := HA.out.2.1
        rw [List.drop_eq_nil_of_le (by omega)] at hcv
        replace hcv : a = s.data.toList.length := hcv
        rw [len_toList] at hcv
        subst hcv
        have z4 : decide ((i : Int) < ((L.length : Nat) : Int)) = false := decide_eq_false (by omega)
        have z5 : decide ((0 : Int) < ((L.length : Nat) : Int)) = true := decide_eq_true (by omega)
        have z6 : 0 < L.length := by omega
        have z7 : ¬ i < L.length := by omega
        have HB := Lib.hid HW.out.1
        clear hTl hTn hT1 hr
        go_wp2_with (fail)
        go_ret
        exact ⟨by first | rfl | (simp [Act.eval]; done) | (simp [Act.eval]; omega), HB.out⟩
end Go.Proofs.YtlmggfbpdciioaaDoor
