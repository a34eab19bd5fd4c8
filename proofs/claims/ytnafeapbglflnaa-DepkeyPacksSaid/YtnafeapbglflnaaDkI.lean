/- The walk of the document's Pack. -/
import Derived.Test.YtnafeapbglflnaaDkH
namespace Go.Proofs.Ytnafeapbglflnaa
open Go.RowKit PRef Go.Proofs.YtnafeapbglflnaaW.PrintWords
set_option linter.unusedVariables false

theorem any_wild_not {l : List S45} {has : Bool} {ex : ByteArray} (k : Nat) (hk : k < l.length) (h : wildP (l.getD k z45) = true) : packF l has ex = (⟨#[]⟩, 170) := by
  unfold packF
  rw [if_pos]
  unfold packBad
  have : l.any wildP = true := List.any_eq_true.2 ⟨l.getD k z45, by rw [List.getD_eq_getElem?_getD, List.getElem?_eq_getElem hk]; exact List.getElem_mem hk, h⟩
  rw [this]
  simp

set_option maxRecDepth 100000 in
set_option maxHeartbeats 2000000 in
theorem qpack_any (l : List S45) (has : Bool) (ex : ByteArray) (A : Option Addr) (c : Nat) (w : World) (h : Kd.C k45 w A l.length l) (hs : ex.size ≤ 100000) :
    Calls Try.prog 17 #[.agg #[.slice A l.length c, .bool has, .string ex]] w fun e w' => e = .returned (.tuple #[.string (packF l has ex).1, .int .i64 (packF l has ex).2]) ∧ Below w.heap.size w w' := by
  have HH := Lib.hid h
  have HA := Lib.hid (bel_alloc (Below.refl w.heap.size w) (.cells #[.slice A l.length c, .bool has, .string ex] 34))
  have HNB := Lib.hid (blk_new w (.cells #[.slice A l.length c, .bool has, .string ex] 34))
  by_cases hl : 5000 < l.length
  · have HE : Hid (packF l has ex = (⟨#[]⟩, 170)) := Lib.hid (by unfold packF packBad; rw [decide_eq_true hl]; simp)
    have hd : decide ((5000 : Int) < l.length) = true := decide_eq_true (by omega)
    clear h hl
    go_enter Try.func17, Try.ntmps17
    go_wp2_with (fail)
    go_ret2
    rw [HE.out]
    exact ⟨rfl, HA.out⟩
  have hd : decide ((5000 : Int) < l.length) = false := decide_eq_false (by omega)
  have hl2 : l.length ≤ 5000 := by omega
  clear h hl
  by_cases hx : has = false ∧ ex.toList.isEmpty = false
  · obtain ⟨rfl, hx⟩ := hx
    have HE : Hid (packF l false ex = (⟨#[]⟩, 170)) := Lib.hid (by unfold packF packBad; rw [hx]; simp)
    go_enter Try.func17, Try.ntmps17
    go_wp2_with (fail)
    go_ret2
    rw [HE.out]
    exact ⟨rfl, HA.out⟩
  have hx2 : has = true ∨ (has = false ∧ ex.toList.isEmpty = true) := by cases has <;> simp_all
  have HE1 : Hid (l.any wildP = false → packF l has ex = (⟨(packB l has ex).toArray⟩, 0)) := Lib.hid (fun hw => by
    unfold packF
    rw [if_neg]
    unfold packBad
    rw [hw, decide_eq_false (by omega)]
    rcases hx2 with rfl | ⟨rfl, hx2⟩
    · simp
    · rw [hx2]; simp)
  have HXX := Lib.hid hx2
  have HLT : Hid ((w.alloc (.cells #[.slice A l.length c, .bool has, .string ex] 34)).heap.size = w.heap.size + 1) := Lib.hid (by simp)
  have HC1 := Lib.hid (qnum_any l.length (w.heap.size + 1) [] (.slice none 0 0) (w.alloc (.cells #[.slice A l.length c, .bool has, .string ex] 34)) (by omega) (World.ownsRow_nil _ _ _ _) (by simp) (by simp))
  clear hx hx2
  rcases HXX.out with rfl | ⟨rfl, hx⟩
  · go_enter Try.func17, Try.ntmps17
    go_wp2_with (fail)
    refine HC1.out.mono ?_
    rintro e w3 ⟨v3, rfl, hown3, hk3⟩
    have HN3 := Lib.hid (RS.blk hk3 HNB.out (by decide))
    have HB3 := Lib.hid (HA.out.trans ((RS.below hk3 (by have := HLT.out; omega)).mono (by omega)))
    have HO3 := Lib.hid (show w3.ownsRow (w.heap.size + 1) 5 1 v3 (be4 l.length ++ (l.take 0).flatMap diagB).length (u8s (be4 l.length ++ (l.take 0).flatMap diagB)) by simpa using hown3)
    clear hown3 hk3 HC1 HA HNB HXX
    go_wp2_with (fail)
    go_loopw [4, 5] (fun bv iv wr => ∃ k : Nat, k ≤ l.length ∧ iv = .int .i64 k ∧ Hid ((l.take k).any wildP = false) ∧ Hid (wr.ownsRow (w.heap.size + 1) 5 1 bv (be4 l.length ++ (l.take k).flatMap diagB).length (u8s (be4 l.length ++ (l.take k).flatMap diagB))) ∧ Hid (Below w.heap.size w wr) ∧ Hid (wr.heap[w.heap.size]? = some (.cells #[.slice A l.length c, .bool _, .string ex] 34 (0, 0)))) (fun _ iv _ => l.length - (intOf iv).toNat)
    case atStart => exact ⟨0, Nat.zero_le _, rfl, rfl, HO3, HB3, HN3⟩
    case round =>
      obtain ⟨k, hk, rfl, hany, hW, hbw, hnb⟩ := hrel
      clear HO3 HB3 HN3
      have q0 : wr.cell? ⟨w.heap.size, 0, none⟩ = some (.slice A l.length c) := (blk_cell hnb.out 0).trans rfl
      have HLT2 := Lib.hid (blk_lt hnb.out)
      by_cases hlt : k < l.length
      · obtain ⟨ad, rfl, c0, c1⟩ := at_T45 (Kd.C_below HH.out hbw.out) k (by omega) (by omega)
        rw [Int.toNat_natCast] at c0 c1
        have e1 : 0 ≤ (k : Int) := by omega
        have e2 : (k : Int) < l.length := by omega
        have hx : rd_T45 l k = l.getD k z45 := by unfold rd_T45; rw [Int.toNat_natCast]
        have ht : (l.take (k + 1)).flatMap diagB = (l.take k).flatMap diagB ++ diagB (l.getD k z45) := by
          rw [List.take_succ_eq_append_getElem hlt, List.flatMap_append]
          simp [List.getD_eq_getElem?_getD, List.getElem?_eq_getElem hlt]
        have hlen : (be4 l.length ++ (l.take k).flatMap diagB).length ≤ 50000 := by
          have h2 : (l.take k).length ≤ 5000 := by simp; omega
          rw [List.length_append, diags_length, be4_length]
          omega
        have ha := any_take l z45 wildP k hlt
        have hno := fun hs => any_wild_not (l := l) (has := hs) (ex := ex) k hlt
        rw [hany.out] at ha
        rw [← hx] at ht ha hno
        have HT := Lib.hid ht
        have HAN := Lib.hid ha
        have HNO := Lib.hid hno
        clear hx ht ha hno hany
        generalize rd_T45 l k = x at *
        obtain ⟨x0, x1⟩ := x
        simp only at c0 c1 HT
        cases hwd : wildP ⟨x0, x1⟩ with
        | true =>
          have HE := Lib.hid (fun hs => HNO.out hs hwd)
          have hcs : (decide (x0 < 0) = true) ∨ (decide (x0 < 0) = false ∧ decide (2147483647 < x0) = true) ∨ (decide (x0 < 0) = false ∧ decide (2147483647 < x0) = false ∧ decide (x1 < 0) = true) ∨ (decide (x0 < 0) = false ∧ decide (2147483647 < x0) = false ∧ decide (x1 < 0) = false ∧ decide (2147483647 < x1) = true) := by
            unfold wildP at hwd
            simp only [Bool.or_eq_true, decide_eq_true_eq] at hwd
            simp only [decide_eq_true_eq, decide_eq_false_iff_not]
            omega
          have HB5 := Lib.hid (bel_alloc hbw.out (.cells #[.int .i64 x0, .int .i64 x1] 45))
          clear hwd HNO HAN
          rcases hcs with z1 | ⟨z1, z2⟩ | ⟨z1, z2, z3⟩ | ⟨z1, z2, z3, z4⟩
          all_goals
            go_wp2_with (fail)
            go_ret2
            rw [HE.out]
            exact ⟨rfl, HB5.out⟩
        | false =>
          obtain ⟨n1, n2, n3, n4⟩ := wild_not hwd
          simp only at n1 n2 n3 n4
          obtain ⟨m0, rfl⟩ := Int.eq_ofNat_of_zero_le n1
          obtain ⟨m1, rfl⟩ := Int.eq_ofNat_of_zero_le n3
          have z1 : decide ((m0 : Int) < 0) = false := decide_eq_false (by omega)
          have z2 : decide (2147483647 < (m0 : Int)) = false := decide_eq_false (by omega)
          have z3 : decide ((m1 : Int) < 0) = false := decide_eq_false (by omega)
          have z4 : decide (2147483647 < (m1 : Int)) = false := decide_eq_false (by omega)
          have HAN2 := Lib.hid (HAN.out.trans (by rw [hwd]))
          generalize hxs : be4 l.length ++ (l.take k).flatMap diagB = xs at *
          have HXS := Lib.hid hxs
          have hxl : (xs ++ be4 m0).length ≤ 50004 := by rw [List.length_append, be4_length]; omega
          have HB5 := Lib.hid (bel_drew' (bel_alloc hbw.out (.cells #[.int .i64 m0, .int .i64 m1] 45)))
          have hsz : w.heap.size + 1 ≤ wr.heap.size := HLT2.out
          have HSZ := Lib.hid hsz
          have HNB5 := Lib.hid (blk_new wr (.cells #[.int .i64 m0, .int .i64 m1] 45))
          have HO5 := Lib.hid (blk_alloc hnb.out (.cells #[.int .i64 m0, .int .i64 m1] 45))
          have HD1 := Lib.hid (qnum_any m0 (w.heap.size + 1) xs _ (wr.alloc (.cells #[.int .i64 m0, .int .i64 m1] 45)).drew (by omega) (hW.out.alloc _) (by omega) (by simp; omega))
          have HD2 := Lib.hid (fun v W h1 h2 => qnum_any m1 (w.heap.size + 1) (xs ++ be4 m0) v W (by omega) h1 (by omega) h2)
          clear hxs hxl hsz hwd HNO HAN n1 n2 n3 n4 hlen
          go_wp2_with (fail)
          go_region_held3 (fun w' => w'.cell? ⟨wr.heap.size, 0, none⟩ = some (.int .i64 m0) ∧ w'.cell? ⟨wr.heap.size, 1, none⟩ = some (.int .i64 m1))
            (first
              | exact ⟨g0, g1⟩
              | exact ⟨d0, d1⟩
              | exact ⟨by simp, by simp⟩)
            (first
              | (go_at_call 26; refine (HD2.out _ _ HO6.out HL6.out).mono ?_; rintro e w7 ⟨v7, rfl, hown7, hk7⟩; have HO7 := Lib.hid hown7; have hn7 := RS.blk hk7 HN6.out (by decide); have g0 : w7.cell? ⟨wr.heap.size, 0, none⟩ = some (.int .i64 m0) := (blk_cell hn7 0).trans rfl; have g1 : w7.cell? ⟨wr.heap.size, 1, none⟩ = some (.int .i64 m1) := (blk_cell hn7 1).trans rfl; have HR7 := Lib.hid (RS.blk hk7 HR6.out (by decide)); have HB7 := Lib.hid (HB6.out.trans ((RS.below hk7 HL6.out).mono (Nat.le_succ _))); clear hown7 hk7 hn7)
              | (go_at_call 26; refine HD1.out.mono ?_; rintro e w6 ⟨v6, rfl, hown6, hk6⟩; have HO6 := Lib.hid hown6; have hn6 := RS.blk hk6 HNB5.out (by decide); have HN6 := Lib.hid hn6; have d0 : w6.cell? ⟨wr.heap.size, 0, none⟩ = some (.int .i64 m0) := (blk_cell hn6 0).trans rfl; have d1 : w6.cell? ⟨wr.heap.size, 1, none⟩ = some (.int .i64 m1) := (blk_cell hn6 1).trans rfl; have hr6 := RS.blk hk6 HO5.out (by decide); have HR6 := Lib.hid hr6; have HL6 : Hid (w.heap.size + 1 ≤ w6.heap.size) := Lib.hid (blk_lt hr6); have HB6 := Lib.hid (HB5.out.trans ((RS.below hk6 (Nat.le_trans HSZ.out (Nat.le_of_lt (blk_lt HNB5.out)))).mono (Nat.le_succ _))); clear hown6 hk6 hn6 hr6))
          go_wp2_with (fail)
          go_roundw
          case rel =>
            refine ⟨k + 1, by omega, by go_num, HAN2, Lib.hid ?_, HB7, HR7⟩
            rw [HT.out, ← List.append_assoc, HXS.out]
            simpa [diagB, List.append_assoc] using HO7.out
          case measure => simp [intOf]; omega
      · obtain rfl : k = l.length := by omega
        have HE := Lib.hid (HE1.out (by rw [← List.take_length (l := l), hany.out]))
        have hlen : (be4 l.length ++ (l.take l.length).flatMap diagB).length ≤ 50000 := by
          rw [List.length_append, diags_length, be4_length, List.take_length]
          omega
        have HP : Hid (∀ hs : Bool, be4 l.length ++ (l.take l.length).flatMap diagB ++ fl hs ++ tx ex = packB l hs ex) := Lib.hid (by intro hs; rw [List.take_length]; simp [packB])
        clear hany
        generalize be4 l.length ++ (l.take l.length).flatMap diagB = xs at *
        have hsz : w.heap.size + 1 ≤ wr.heap.size := HLT2.out
        have hl2 : ∀ hs, (xs ++ fl hs).length ≤ 50001 := by intro hs; rw [List.length_append, fl_length]; omega
        have HD1 := Lib.hid (fun hs => qflag_any hs (w.heap.size + 1) xs _ wr.drew hW.out (by omega) hsz)
        have HD2 := Lib.hid (fun hs v W h1 h2 => qtext_any ex (w.heap.size + 1) (xs ++ fl hs) v W (by omega) h1 (by have := hl2 hs; omega) h2)
        have HSZ := Lib.hid hsz
        have q1 : wr.cell? ⟨w.heap.size, 1, none⟩ = some (.bool _) := (blk_cell hnb.out 1).trans rfl
        have q2 : wr.cell? ⟨w.heap.size, 2, none⟩ = some (.string ex) := (blk_cell hnb.out 2).trans rfl
        clear hW hl2 hlen hsz
        go_wp2_with (fail)
        go_region_law (first
            | (go_simp; go_at_call 27; refine (HD2.out _ _ _ HO6.out HL6.out).mono ?_; rintro e w7 ⟨v7, rfl, hown7, hk7⟩; have hn7 := RS.blk hk7 HN6.out (by decide); have g0 : w7.cell? ⟨w.heap.size, 1, none⟩ = some (.bool _) := (blk_cell hn7 1).trans rfl; have g1 : w7.cell? ⟨w.heap.size, 2, none⟩ = some (.string ex) := (blk_cell hn7 2).trans rfl; have HB7 := Lib.hid (HB6.out.trans ((RS.below hk7 HL6.out).mono (Nat.le_succ _))); rw [HP.out] at hown7; obtain ⟨A7, c7, rfl, hcv7⟩ := own_bytes hown7; clear hown7 hk7 hn7)
            | (go_simp; go_at_call 28; refine (HD1.out _).mono ?_; rintro e w6 ⟨v6, rfl, hown6, hk6⟩; have HO6 := Lib.hid hown6; have hn6 := RS.blk hk6 hnb.out (by decide); have HN6 := Lib.hid hn6; have d0 : w6.cell? ⟨w.heap.size, 1, none⟩ = some (.bool _) := (blk_cell hn6 1).trans rfl; have d1 : w6.cell? ⟨w.heap.size, 2, none⟩ = some (.string ex) := (blk_cell hn6 2).trans rfl; have HL6 : Hid (w.heap.size + 1 ≤ w6.heap.size) := Lib.hid (blk_lt hn6); have HB6 := Lib.hid ((bel_drew' hbw.out).trans ((RS.below hk6 HSZ.out).mono (Nat.le_succ _))); clear hown6 hk6 hn6))
        all_goals
          go_wp2_with (fail)
          go_ret2
          rw [HE.out]
          exact ⟨rfl, HB7.out⟩
  · go_enter Try.func17, Try.ntmps17
    go_wp2_with (fail)
    refine HC1.out.mono ?_
    rintro e w3 ⟨v3, rfl, hown3, hk3⟩
    have HN3 := Lib.hid (RS.blk hk3 HNB.out (by decide))
    have HB3 := Lib.hid (HA.out.trans ((RS.below hk3 (by have := HLT.out; omega)).mono (by omega)))
    have HO3 := Lib.hid (show w3.ownsRow (w.heap.size + 1) 5 1 v3 (be4 l.length ++ (l.take 0).flatMap diagB).length (u8s (be4 l.length ++ (l.take 0).flatMap diagB)) by simpa using hown3)
    clear hown3 hk3 HC1 HA HNB HXX
    go_wp2_with (fail)
    go_loopw [4, 5] (fun bv iv wr => ∃ k : Nat, k ≤ l.length ∧ iv = .int .i64 k ∧ Hid ((l.take k).any wildP = false) ∧ Hid (wr.ownsRow (w.heap.size + 1) 5 1 bv (be4 l.length ++ (l.take k).flatMap diagB).length (u8s (be4 l.length ++ (l.take k).flatMap diagB))) ∧ Hid (Below w.heap.size w wr) ∧ Hid (wr.heap[w.heap.size]? = some (.cells #[.slice A l.length c, .bool _, .string ex] 34 (0, 0)))) (fun _ iv _ => l.length - (intOf iv).toNat)
    case atStart => exact ⟨0, Nat.zero_le _, rfl, rfl, HO3, HB3, HN3⟩
    case round =>
      obtain ⟨k, hk, rfl, hany, hW, hbw, hnb⟩ := hrel
      clear HO3 HB3 HN3
      have q0 : wr.cell? ⟨w.heap.size, 0, none⟩ = some (.slice A l.length c) := (blk_cell hnb.out 0).trans rfl
      have HLT2 := Lib.hid (blk_lt hnb.out)
      by_cases hlt : k < l.length
      · obtain ⟨ad, rfl, c0, c1⟩ := at_T45 (Kd.C_below HH.out hbw.out) k (by omega) (by omega)
        rw [Int.toNat_natCast] at c0 c1
        have e1 : 0 ≤ (k : Int) := by omega
        have e2 : (k : Int) < l.length := by omega
        have hx : rd_T45 l k = l.getD k z45 := by unfold rd_T45; rw [Int.toNat_natCast]
        have ht : (l.take (k + 1)).flatMap diagB = (l.take k).flatMap diagB ++ diagB (l.getD k z45) := by
          rw [List.take_succ_eq_append_getElem hlt, List.flatMap_append]
          simp [List.getD_eq_getElem?_getD, List.getElem?_eq_getElem hlt]
        have hlen : (be4 l.length ++ (l.take k).flatMap diagB).length ≤ 50000 := by
          have h2 : (l.take k).length ≤ 5000 := by simp; omega
          rw [List.length_append, diags_length, be4_length]
          omega
        have ha := any_take l z45 wildP k hlt
        have hno := fun hs => any_wild_not (l := l) (has := hs) (ex := ex) k hlt
        rw [hany.out] at ha
        rw [← hx] at ht ha hno
        have HT := Lib.hid ht
        have HAN := Lib.hid ha
        have HNO := Lib.hid hno
        clear hx ht ha hno hany
        generalize rd_T45 l k = x at *
        obtain ⟨x0, x1⟩ := x
        simp only at c0 c1 HT
        cases hwd : wildP ⟨x0, x1⟩ with
        | true =>
          have HE := Lib.hid (fun hs => HNO.out hs hwd)
          have hcs : (decide (x0 < 0) = true) ∨ (decide (x0 < 0) = false ∧ decide (2147483647 < x0) = true) ∨ (decide (x0 < 0) = false ∧ decide (2147483647 < x0) = false ∧ decide (x1 < 0) = true) ∨ (decide (x0 < 0) = false ∧ decide (2147483647 < x0) = false ∧ decide (x1 < 0) = false ∧ decide (2147483647 < x1) = true) := by
            unfold wildP at hwd
            simp only [Bool.or_eq_true, decide_eq_true_eq] at hwd
            simp only [decide_eq_true_eq, decide_eq_false_iff_not]
            omega
          have HB5 := Lib.hid (bel_alloc hbw.out (.cells #[.int .i64 x0, .int .i64 x1] 45))
          clear hwd HNO HAN
          rcases hcs with z1 | ⟨z1, z2⟩ | ⟨z1, z2, z3⟩ | ⟨z1, z2, z3, z4⟩
          all_goals
            go_wp2_with (fail)
            go_ret2
            rw [HE.out]
            exact ⟨rfl, HB5.out⟩
        | false =>
          obtain ⟨n1, n2, n3, n4⟩ := wild_not hwd
          simp only at n1 n2 n3 n4
          obtain ⟨m0, rfl⟩ := Int.eq_ofNat_of_zero_le n1
          obtain ⟨m1, rfl⟩ := Int.eq_ofNat_of_zero_le n3
          have z1 : decide ((m0 : Int) < 0) = false := decide_eq_false (by omega)
          have z2 : decide (2147483647 < (m0 : Int)) = false := decide_eq_false (by omega)
          have z3 : decide ((m1 : Int) < 0) = false := decide_eq_false (by omega)
          have z4 : decide (2147483647 < (m1 : Int)) = false := decide_eq_false (by omega)
          have HAN2 := Lib.hid (HAN.out.trans (by rw [hwd]))
          generalize hxs : be4 l.length ++ (l.take k).flatMap diagB = xs at *
          have HXS := Lib.hid hxs
          have hxl : (xs ++ be4 m0).length ≤ 50004 := by rw [List.length_append, be4_length]; omega
          have HB5 := Lib.hid (bel_drew' (bel_alloc hbw.out (.cells #[.int .i64 m0, .int .i64 m1] 45)))
          have hsz : w.heap.size + 1 ≤ wr.heap.size := HLT2.out
          have HSZ := Lib.hid hsz
          have HNB5 := Lib.hid (blk_new wr (.cells #[.int .i64 m0, .int .i64 m1] 45))
          have HO5 := Lib.hid (blk_alloc hnb.out (.cells #[.int .i64 m0, .int .i64 m1] 45))
          have HD1 := Lib.hid (qnum_any m0 (w.heap.size + 1) xs _ (wr.alloc (.cells #[.int .i64 m0, .int .i64 m1] 45)).drew (by omega) (hW.out.alloc _) (by omega) (by simp; omega))
          have HD2 := Lib.hid (fun v W h1 h2 => qnum_any m1 (w.heap.size + 1) (xs ++ be4 m0) v W (by omega) h1 (by omega) h2)
          clear hxs hxl hsz hwd HNO HAN n1 n2 n3 n4 hlen
          go_wp2_with (fail)
          go_region_held3 (fun w' => w'.cell? ⟨wr.heap.size, 0, none⟩ = some (.int .i64 m0) ∧ w'.cell? ⟨wr.heap.size, 1, none⟩ = some (.int .i64 m1))
            (first
              | exact ⟨g0, g1⟩
              | exact ⟨d0, d1⟩
              | exact ⟨by simp, by simp⟩)
            (first
              | (go_at_call 26; refine (HD2.out _ _ HO6.out HL6.out).mono ?_; rintro e w7 ⟨v7, rfl, hown7, hk7⟩; have HO7 := Lib.hid hown7; have hn7 := RS.blk hk7 HN6.out (by decide); have g0 : w7.cell? ⟨wr.heap.size, 0, none⟩ = some (.int .i64 m0) := (blk_cell hn7 0).trans rfl; have g1 : w7.cell? ⟨wr.heap.size, 1, none⟩ = some (.int .i64 m1) := (blk_cell hn7 1).trans rfl; have HR7 := Lib.hid (RS.blk hk7 HR6.out (by decide)); have HB7 := Lib.hid (HB6.out.trans ((RS.below hk7 HL6.out).mono (Nat.le_succ _))); clear hown7 hk7 hn7)
              | (go_at_call 26; refine HD1.out.mono ?_; rintro e w6 ⟨v6, rfl, hown6, hk6⟩; have HO6 := Lib.hid hown6; have hn6 := RS.blk hk6 HNB5.out (by decide); have HN6 := Lib.hid hn6; have d0 : w6.cell? ⟨wr.heap.size, 0, none⟩ = some (.int .i64 m0) := (blk_cell hn6 0).trans rfl; have d1 : w6.cell? ⟨wr.heap.size, 1, none⟩ = some (.int .i64 m1) := (blk_cell hn6 1).trans rfl; have hr6 := RS.blk hk6 HO5.out (by decide); have HR6 := Lib.hid hr6; have HL6 : Hid (w.heap.size + 1 ≤ w6.heap.size) := Lib.hid (blk_lt hr6); have HB6 := Lib.hid (HB5.out.trans ((RS.below hk6 (Nat.le_trans HSZ.out (Nat.le_of_lt (blk_lt HNB5.out)))).mono (Nat.le_succ _))); clear hown6 hk6 hn6 hr6))
          go_wp2_with (fail)
          go_roundw
          case rel =>
            refine ⟨k + 1, by omega, by go_num, HAN2, Lib.hid ?_, HB7, HR7⟩
            rw [HT.out, ← List.append_assoc, HXS.out]
            simpa [diagB, List.append_assoc] using HO7.out
          case measure => simp [intOf]; omega
      · obtain rfl : k = l.length := by omega
        have HE := Lib.hid (HE1.out (by rw [← List.take_length (l := l), hany.out]))
        have hlen : (be4 l.length ++ (l.take l.length).flatMap diagB).length ≤ 50000 := by
          rw [List.length_append, diags_length, be4_length, List.take_length]
          omega
        have HP : Hid (∀ hs : Bool, be4 l.length ++ (l.take l.length).flatMap diagB ++ fl hs ++ tx ex = packB l hs ex) := Lib.hid (by intro hs; rw [List.take_length]; simp [packB])
        clear hany
        generalize be4 l.length ++ (l.take l.length).flatMap diagB = xs at *
        have hsz : w.heap.size + 1 ≤ wr.heap.size := HLT2.out
        have hl2 : ∀ hs, (xs ++ fl hs).length ≤ 50001 := by intro hs; rw [List.length_append, fl_length]; omega
        have HD1 := Lib.hid (fun hs => qflag_any hs (w.heap.size + 1) xs _ wr.drew hW.out (by omega) hsz)
        have HD2 := Lib.hid (fun hs v W h1 h2 => qtext_any ex (w.heap.size + 1) (xs ++ fl hs) v W (by omega) h1 (by have := hl2 hs; omega) h2)
        have HSZ := Lib.hid hsz
        have q1 : wr.cell? ⟨w.heap.size, 1, none⟩ = some (.bool _) := (blk_cell hnb.out 1).trans rfl
        have q2 : wr.cell? ⟨w.heap.size, 2, none⟩ = some (.string ex) := (blk_cell hnb.out 2).trans rfl
        clear hW hl2 hlen hsz
        go_wp2_with (fail)
        go_region_law (first
            | (go_simp; go_at_call 27; refine (HD2.out _ _ _ HO6.out HL6.out).mono ?_; rintro e w7 ⟨v7, rfl, hown7, hk7⟩; have hn7 := RS.blk hk7 HN6.out (by decide); have g0 : w7.cell? ⟨w.heap.size, 1, none⟩ = some (.bool _) := (blk_cell hn7 1).trans rfl; have g1 : w7.cell? ⟨w.heap.size, 2, none⟩ = some (.string ex) := (blk_cell hn7 2).trans rfl; have HB7 := Lib.hid (HB6.out.trans ((RS.below hk7 HL6.out).mono (Nat.le_succ _))); rw [HP.out] at hown7; obtain ⟨A7, c7, rfl, hcv7⟩ := own_bytes hown7; clear hown7 hk7 hn7)
            | (go_simp; go_at_call 28; refine (HD1.out _).mono ?_; rintro e w6 ⟨v6, rfl, hown6, hk6⟩; have HO6 := Lib.hid hown6; have hn6 := RS.blk hk6 hnb.out (by decide); have HN6 := Lib.hid hn6; have d0 : w6.cell? ⟨w.heap.size, 1, none⟩ = some (.bool _) := (blk_cell hn6 1).trans rfl; have d1 : w6.cell? ⟨w.heap.size, 2, none⟩ = some (.string ex) := (blk_cell hn6 2).trans rfl; have HL6 : Hid (w.heap.size + 1 ≤ w6.heap.size) := Lib.hid (blk_lt hn6); have HB6 := Lib.hid ((bel_drew' hbw.out).trans ((RS.below hk6 HSZ.out).mono (Nat.le_succ _))); clear hown6 hk6 hn6))
        all_goals
          go_wp2_with (fail)
          go_ret2
          rw [HE.out]
          exact ⟨rfl, HB7.out⟩
end Go.Proofs.Ytnafeapbglflnaa
