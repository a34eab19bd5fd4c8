/- The walk of depkey.Pack. -/
import Derived.Test.YtnafeapbglflnaaDkC
import Derived.Test.YtnafeapbglflnaaWMore
namespace Go.Proofs.Ytnafeapbglflnaa
open Go.RowKit PRef Go.Proofs.YtnafeapbglflnaaW.PrintWords Go.Proofs.YtnafeapbglflnaaW.PrintMore
set_option linter.unusedVariables false
attribute [local go_sem] max2_int min2_int max_two min_two

/-- A diagnostic that has no place among the bytes. -/
def wildP (d : S45) : Bool := decide (d.f0 < 0) || decide (d.f1 < 0) || decide (2147483647 < d.f0) || decide (2147483647 < d.f1)
def diagV (d : S45) : Value := .agg #[.int .i64 d.f0, .int .i64 d.f1]

theorem ret_bool {a b : Bool} (h : a = b) : Ending.returned (.bool a) = Ending.returned (.bool b) := by rw [h]

theorem wild_any (d : S45) (w : World) : Calls Try.prog 35 #[diagV d] w fun e w' => e = .returned (.bool (wildP d)) ∧ Below w.heap.size w w' := by
  have HW : Hid (wildP d = (decide (d.f0 < 0) || decide (d.f1 < 0) || decide (2147483647 < d.f0) || decide (2147483647 < d.f1))) := Lib.hid rfl
  generalize wildP d = r at *
  obtain ⟨a, b⟩ := d
  unfold diagV
  simp only at HW
  go_enter Try.func35, Try.ntmps35
  go_wp2
  all_goals go_ret
  all_goals refine ⟨ret_bool ?_, bel_alloc (Below.refl _ _) _⟩
  all_goals rw [HW.out, Bool.eq_iff_iff]
  all_goals simp
  all_goals omega

set_option maxHeartbeats 1000000 in
theorem index_diag (l : List S45) (A : Option Addr) (c : Nat) (w : World) (h : Kd.C k45 w A l.length l) (hl : l.length ≤ 140737488355328) :
    Calls Try.prog 44 #[.slice A l.length c, .func (.func 35) #[] #[]] w fun e w' => (∃ r : Int, e = .returned (.int .i64 r) ∧ decide (0 ≤ r) = l.any wildP) ∧ Below w.heap.size w w' := by
  have HH := Lib.hid h
  clear h
  go_enter Try.func44, Try.ntmps44
  go_wp2
  go_loopw [8] (fun iv wr => ∃ k : Nat, k ≤ l.length ∧ iv = .int .i64 k ∧ Hid ((l.take k).any wildP = false) ∧ Below w.heap.size w wr) (fun iv _ => l.length - (intOf iv).toNat)
  case atStart => exact ⟨0, Nat.zero_le _, rfl, rfl, Below.refl _ _⟩
  case round =>
    obtain ⟨k, hk, rfl, hany, hbw⟩ := hrel
    by_cases hlt : k < l.length
    · obtain ⟨ad, rfl, c0, c1⟩ := at_T45 (Kd.C_below HH.out hbw) k (by omega) (by omega)
      have HB := Lib.hid hbw
      clear hbw
      rw [Int.toNat_natCast] at c0 c1
      have e1 : 0 ≤ (k : Int) := by omega
      have e2 : (k : Int) < l.length := by omega
      have HX : Hid (rd_T45 l k = l.getD k z45) := Lib.hid (by unfold rd_T45; rw [Int.toNat_natCast])
      have HA := Lib.hid (any_take l z45 wildP k hlt)
      generalize rd_T45 l k = x at *
      have HC := Lib.hid (wild_any x)
      go_wp2_with (fail)
      refine (HC.out wr).mono ?_
      rintro e w1 ⟨rfl, hb1⟩
      have HB1 := Lib.hid (bel_trans HB.out hb1)
      clear hb1 HB c0 c1
      cases hp : wildP x
      · have HP := Lib.hid hp
        clear hp
        go_wp2
        go_roundw
        case rel => exact ⟨k + 1, by omega, by go_num, Lib.hid (by rw [HA.out, hany.out, ← HX.out, HP.out]; rfl), HB1.out⟩
        case measure => simp [intOf]; omega
      · have HP := Lib.hid hp
        clear hp
        go_wp2
        go_ret
        exact ⟨⟨k, rfl, by rw [any_of_take l wildP (k + 1) (by rw [HA.out, ← HX.out, HP.out]; simp)]; exact decide_eq_true e1⟩, HB1.out⟩
    · obtain rfl : k = l.length := by omega
      have HB := Lib.hid hbw
      clear hbw
      go_wp2
      go_ret
      exact ⟨⟨-1, rfl, by rw [← List.take_length (l := l), hany.out]; rfl⟩, HB.out⟩

theorem contains_diag (l : List S45) (A : Option Addr) (c : Nat) (w : World) (h : Kd.C k45 w A l.length l) (hl : l.length ≤ 140737488355328) :
    Calls Try.prog 36 #[.slice A l.length c, .func (.func 35) #[] #[]] w fun e w' => e = .returned (.bool (l.any wildP)) ∧ Below w.heap.size w w' := by
  have HC := Lib.hid (index_diag l A c w h hl)
  clear h
  go_enter Try.func36, Try.ntmps36
  go_wp2_with (fail)
  refine HC.out.mono ?_
  rintro e w1 ⟨⟨r, rfl, hr⟩, hb⟩
  have HR := Lib.hid hr
  have HB := Lib.hid hb
  clear hr hb HC
  go_wp2
  go_ret
  exact ⟨by rw [← HR.out]; rfl, HB.out⟩

def diagB (d : S45) : List UInt8 := be4 d.f0.toNat ++ be4 d.f1.toNat
def packB (l : List S45) (has : Bool) (ex : ByteArray) : List UInt8 := be4 l.length ++ l.flatMap diagB ++ fl has ++ tx ex
def packBad (l : List S45) (has : Bool) (ex : ByteArray) : Bool := decide (5000 < l.length) || l.any wildP || (!has && !ex.toList.isEmpty)
def packF (l : List S45) (has : Bool) (ex : ByteArray) : ByteArray × Int := if packBad l has ex = true then (⟨#[]⟩, 170) else (⟨(packB l has ex).toArray⟩, 0)
theorem diags_length (l : List S45) : (l.flatMap diagB).length = 8 * l.length := by
  induction l with
  | nil => simp
  | cons d l ih => simp only [List.flatMap_cons, List.length_append, diagB, be4_length, List.length_cons, ih]; omega

theorem pack_big (l : List S45) (has : Bool) (ex : ByteArray) (A : Option Addr) (c : Nat) (w : World) (hl : 5000 < l.length) :
    Calls Try.prog 16 #[.agg #[.slice A l.length c, .bool has, .string ex]] w fun e w' => e = .returned (.tuple #[.string (packF l has ex).1, .int .i64 (packF l has ex).2]) ∧ Below w.heap.size w w' := by
  have HE : Hid (packF l has ex = (⟨#[]⟩, 170)) := Lib.hid (by unfold packF packBad; rw [decide_eq_true hl]; simp)
  have hd : decide ((5000 : Int) < l.length) = true := decide_eq_true (by omega)
  go_enter Try.func16, Try.ntmps16
  go_wp2_with (fail)
  go_ret2
  rw [HE.out]
  exact ⟨rfl, bel_alloc (Below.refl _ _) _⟩

theorem pack_no (l : List S45) (has : Bool) (ex : ByteArray) (A : Option Addr) (c : Nat) (w : World) (h : Kd.C k45 w A l.length l) (hl : l.length ≤ 5000) (hb : packBad l has ex = true) :
    Calls Try.prog 16 #[.agg #[.slice A l.length c, .bool has, .string ex]] w fun e w' => e = .returned (.tuple #[.string (packF l has ex).1, .int .i64 (packF l has ex).2]) ∧ Below w.heap.size w w' := by
  have HE : Hid (packF l has ex = (⟨#[]⟩, 170)) := Lib.hid (by unfold packF; rw [if_pos hb])
  have hd : decide ((5000 : Int) < l.length) = false := decide_eq_false (by omega)
  have hb2 : l.any wildP = true ∨ (l.any wildP = false ∧ has = false ∧ ex.toList.isEmpty = false) := by
    unfold packBad at hb
    rw [decide_eq_false (by omega)] at hb
    generalize l.any wildP = q at *
    cases q <;> cases has <;> simp_all
  have HC := Lib.hid (fun (w1 : World) (hb : Below w.heap.size w w1) => contains_diag l A c w1 (Kd.C_below h hb) (by omega))
  have HA := Lib.hid (bel_alloc (Below.refl w.heap.size w) (.cells #[.slice A l.length c, .bool has, .string ex] 34))
  clear h hb
  rcases hb2 with hb | ⟨hb, rfl, hx⟩
  · rw [hb] at HC
    clear hb
    go_enter Try.func16, Try.ntmps16
    go_wp2_with (fail)
    refine (HC.out _ HA.out).mono ?_
    rintro e w1 ⟨rfl, hb1⟩
    have HB := Lib.hid (bel_trans HA.out hb1)
    clear hb1
    go_wp2
    go_ret2
    rw [HE.out]
    exact ⟨rfl, HB.out⟩
  · rw [hb] at HC
    clear hb
    have HNB := Lib.hid (blk_new w (.cells #[.slice A l.length c, .bool false, .string ex] 34))
    go_enter Try.func16, Try.ntmps16
    go_wp2_with (fail)
    refine (HC.out _ HA.out).mono ?_
    rintro e w1 ⟨rfl, hb1⟩
    have HB := Lib.hid (bel_trans HA.out hb1)
    have hnb := blk_later hb1 HNB.out
    have q1 : w1.cell? ⟨w.heap.size, 1, none⟩ = some (.bool false) := (blk_cell hnb 1).trans rfl
    have q2 : w1.cell? ⟨w.heap.size, 2, none⟩ = some (.string ex) := (blk_cell hnb 2).trans rfl
    clear hb1 hnb
    go_wp2
    go_ret2
    rw [HE.out]
    exact ⟨rfl, HB.out⟩
theorem wild_not {d : S45} (h : wildP d = false) : 0 ≤ d.f0 ∧ d.f0 ≤ 2147483647 ∧ 0 ≤ d.f1 ∧ d.f1 ≤ 2147483647 := by
  unfold wildP at h
  simp only [Bool.or_eq_false_iff, decide_eq_false_iff_not] at h
  omega

set_option maxHeartbeats 2000000 in
theorem pack_yes (l : List S45) (has : Bool) (ex : ByteArray) (A : Option Addr) (c : Nat) (w : World) (h : Kd.C k45 w A l.length l) (hl : l.length ≤ 5000) (hs : ex.size ≤ 100000) (hb : packBad l has ex = false) :
    Calls Try.prog 16 #[.agg #[.slice A l.length c, .bool has, .string ex]] w fun e w' => e = .returned (.tuple #[.string (packF l has ex).1, .int .i64 (packF l has ex).2]) ∧ Below w.heap.size w w' := by
  have HE : Hid (packF l has ex = (⟨(packB l has ex).toArray⟩, 0)) := Lib.hid (by unfold packF; rw [hb]; rfl)
  have hd : decide ((5000 : Int) < l.length) = false := decide_eq_false (by omega)
  have hb2 : l.any wildP = false ∧ (has = true ∨ ex.toList.isEmpty = true) := by
    unfold packBad at hb
    rw [decide_eq_false (by omega)] at hb
    generalize l.any wildP = q at *
    cases q <;> cases has <;> simp_all
  obtain ⟨hw0, hx⟩ := hb2
  have HWD : Hid (∀ d ∈ l, wildP d = false) := Lib.hid (by intro d hd2; rw [List.any_eq_false] at hw0; simpa using hw0 d hd2)
  have hcon := fun (w1 : World) (hb : Below w.heap.size w w1) => contains_diag l A c w1 (Kd.C_below h hb) (by omega)
  rw [hw0] at hcon
  have HC := Lib.hid hcon
  have HH := Lib.hid h
  have HA := Lib.hid (bel_alloc (Below.refl w.heap.size w) (.cells #[.slice A l.length c, .bool has, .string ex] 34))
  have HNB := Lib.hid (blk_new w (.cells #[.slice A l.length c, .bool has, .string ex] 34))
  have HNL : Hid (w.heap.size < (w.alloc (.cells #[.slice A l.length c, .bool has, .string ex] 34)).heap.size) := Lib.hid (by simp)
  clear h hb hcon hw0
  go_enter Try.func16, Try.ntmps16
  go_wp2_with (fail)
  refine (HC.out _ HA.out).mono ?_
  rintro e w1 ⟨rfl, hb1⟩
  have HB := Lib.hid (bel_trans HA.out hb1)
  have hnb := blk_later hb1 HNB.out
  have HNB1 := Lib.hid hnb
  have HLT : Hid (w.heap.size < w1.heap.size) := Lib.hid (blk_lt hnb)
  have q0 : w1.cell? ⟨w.heap.size, 0, none⟩ = some (.slice A l.length c) := (blk_cell hnb 0).trans rfl
  have q1 : w1.cell? ⟨w.heap.size, 1, none⟩ = some (.bool has) := (blk_cell hnb 1).trans rfl
  have q2 : w1.cell? ⟨w.heap.size, 2, none⟩ = some (.string ex) := (blk_cell hnb 2).trans rfl
  clear hb1 hnb HC HA HNB HNL
  have hle : w.heap.size ≤ w1.heap.size := HB.out.size
  have HW0 := Lib.hid (isW_new w1)
  have HB2 := Lib.hid (bel_alloc HB.out (.cells #[.slice none 0 0] 51))
  have HNB2 := Lib.hid (blk_alloc HNB1.out (.cells #[.slice none 0 0] 51))
  have HC1 := Lib.hid (num_any l.length w1.heap.size w1.heap.size [] _ (by omega) HW0.out (by simp))
  have hx2 : has = true ∨ (has = false ∧ ex.toList.isEmpty = true) := by rcases hx with hx | hx; exact .inl hx; cases has; exact .inr ⟨rfl, hx⟩; exact .inl rfl
  have HXX := Lib.hid hx2
  clear hx hx2
  have hltt := HLT.out
  rcases HXX.out with rfl | ⟨rfl, hx⟩
  all_goals
    go_wp2_with (fail)
    refine HC1.out.mono ?_
    rintro e w3 ⟨rfl, hw3, hb3⟩
    have hnb3 := WS.blk hb3 HNB2.out (by decide) (by have := HLT.out; omega)
    have q3 : w3.cell? ⟨w.heap.size, 0, none⟩ = some (.slice A l.length c) := (blk_cell hnb3 0).trans rfl
    have HNB3 := Lib.hid hnb3
    have HB3 := Lib.hid (HB2.out.trans ((WS.below hb3 (Nat.le_of_lt (IsW.lt HW0.out))).mono hle))
    have HW3 : Hid (IsW w1.heap.size w1.heap.size (be4 l.length) w3) := Lib.hid (by simpa using hw3)
    clear hw3 hb3 hnb3 HC1 HB2 HW0 HNB2 q0 q1 q2 HXX
    go_wp2_with (fail)
    go_loopw [38] (fun iv wr => ∃ k : Nat, k ≤ l.length ∧ iv = .int .i64 k ∧ Hid (IsW w1.heap.size w1.heap.size (be4 l.length ++ (l.take k).flatMap diagB) wr) ∧ Hid (Below w.heap.size w wr) ∧ Hid (wr.heap[w.heap.size]? = some (.cells #[.slice A l.length c, .bool _, .string ex] 34 (0, 0)))) (fun iv _ => l.length - (intOf iv).toNat)
    case atStart => exact ⟨0, Nat.zero_le _, rfl, Lib.hid (by simpa using HW3.out), HB3, HNB3⟩
    case round =>
      obtain ⟨k, hk, rfl, hW, hbw, hnb⟩ := hrel
      clear HW3 HB3 HNB3 q3
      by_cases hlt : k < l.length
      · obtain ⟨ad, rfl, c0, c1⟩ := at_T45 (Kd.C_below HH.out hbw.out) k (by omega) (by omega)
        rw [Int.toNat_natCast] at c0 c1
        have e1 : 0 ≤ (k : Int) := by omega
        have e2 : (k : Int) < l.length := by omega
        have hx : rd_T45 l k = l.getD k z45 := by unfold rd_T45; rw [Int.toNat_natCast]
        have hm : l.getD k z45 ∈ l := by rw [List.getD_eq_getElem?_getD, List.getElem?_eq_getElem hlt]; exact List.getElem_mem hlt
        have ht : (l.take (k + 1)).flatMap diagB = (l.take k).flatMap diagB ++ diagB (l.getD k z45) := by
          rw [List.take_succ_eq_append_getElem hlt, List.flatMap_append]
          simp [List.getD_eq_getElem?_getD, List.getElem?_eq_getElem hlt]
        have hsd := wild_not (HWD.out _ hm)
        have hlen : (be4 l.length ++ (l.take k).flatMap diagB).length ≤ 50000 := by
          have h2 : (l.take k).length ≤ 5000 := by simp; omega
          rw [List.length_append, diags_length, be4_length]
          omega
        rw [← hx] at ht hsd
        have HT := Lib.hid ht
        clear hx hm ht
        generalize rd_T45 l k = x at *
        obtain ⟨x0, x1⟩ := x
        obtain ⟨n1, n2, n3, n4⟩ := hsd
        obtain ⟨m0, rfl⟩ := Int.eq_ofNat_of_zero_le n1
        obtain ⟨m1, rfl⟩ := Int.eq_ofNat_of_zero_le n3
        generalize hxs : be4 l.length ++ (l.take k).flatMap diagB = xs at *
        have HXS := Lib.hid hxs
        clear hxs
        simp only at n2 n4 c0 c1 HT
        have hW5 := hW.out
        have HLT2 := Lib.hid (IsW.lt hW5)
        have hW6 : Hid (IsW w1.heap.size w1.heap.size xs (wr.alloc (.cells #[.int .i64 m0, .int .i64 m1] 45))) := by
          obtain ⟨v, q1, q2, q3⟩ := hW5
          exact Lib.hid ⟨v, blk_alloc q1 _, q2, q3.alloc _⟩
        have HNB := Lib.hid (blk_new wr (.cells #[.int .i64 m0, .int .i64 m1] 45))
        have HB5 := Lib.hid (bel_alloc hbw.out (.cells #[.int .i64 m0, .int .i64 m1] 45))
        have HO5 := Lib.hid (blk_alloc hnb.out (.cells #[.int .i64 m0, .int .i64 m1] 45))
        have HD1 := Lib.hid (num_any m0 w1.heap.size w1.heap.size xs _ (by omega) hW6.out (by omega))
        clear hW hW5 hnb
        go_wp2_with (fail)
        refine HD1.out.mono ?_
        rintro e w4 ⟨rfl, hw4, hb4⟩
        clear c0 c1
        have hnb4 := WS.blk hb4 HNB.out (by decide) (by have := HLT2.out; omega)
        have HO6 := Lib.hid (WS.blk hb4 HO5.out (by decide) (by have := HLT.out; omega))
        have q1 : w4.cell? ⟨wr.heap.size, 1, none⟩ = some (.int .i64 m1) := (blk_cell hnb4 1).trans rfl
        have HB6 := Lib.hid (HB5.out.trans ((WS.below hb4 (Nat.le_of_lt (IsW.lt hW6.out))).mono hle))
        have HD2 := Lib.hid (num_any m1 w1.heap.size w1.heap.size _ _ (by omega) hw4 (by rw [List.length_append, be4_length]; omega))
        have HW4 := Lib.hid (Nat.le_of_lt (IsW.lt hw4))
        clear hnb4 hw4 hb4 HD1 HB5 HNB hW6 HO5
        go_wp2_with (fail)
        refine HD2.out.mono ?_
        rintro e w5 ⟨rfl, hw5, hb5⟩
        have HB7 := Lib.hid (HB6.out.trans ((WS.below hb5 HW4.out).mono hle))
        have HO7 := Lib.hid (WS.blk hb5 HO6.out (by decide) (by have := HLT.out; omega))
        have HW5 := Lib.hid hw5
        clear hw5 hb5 HD2 HB6 HW4 q1 HO6
        go_wp2
        go_roundw
        case rel =>
          refine ⟨k + 1, by omega, by go_num, Lib.hid ?_, HB7, HO7⟩
          rw [HT.out, ← List.append_assoc, HXS.out]
          simpa [diagB] using HW5.out
        case measure => simp [intOf]; omega
      · obtain rfl : k = l.length := by omega
        have hlen : (be4 l.length ++ (l.take l.length).flatMap diagB).length ≤ 50000 := by
          rw [List.length_append, diags_length, be4_length, List.take_length]
          omega
        have HP : Hid (∀ hs : Bool, be4 l.length ++ (l.take l.length).flatMap diagB ++ fl hs ++ be4 ex.size ++ ex.data.toList = packB l hs ex) := Lib.hid (by intro hs; rw [List.take_length]; simp [packB, tx])
        generalize be4 l.length ++ (l.take l.length).flatMap diagB = xs at *
        have q4 := blk_cell hnb.out 1
        replace q4 := q4.trans (show _ = some (Value.bool _) from rfl)
        have HF := Lib.hid (fun hs => wflag_any hs w1.heap.size w1.heap.size xs wr hW.out (by omega))
        have HWL := Lib.hid (Nat.le_of_lt (IsW.lt hW.out))
        clear hW
        go_wp2_with (fail)
        refine (HF.out _).mono ?_
        rintro e w4 ⟨rfl, hw4, hb4⟩
        have hnb4 := WS.blk hb4 hnb.out (by decide) (by have := HLT.out; omega)
        have q5 : w4.cell? ⟨w.heap.size, 2, none⟩ = some (.string ex) := (blk_cell hnb4 2).trans rfl
        have HB6 := Lib.hid (hbw.out.trans ((WS.below hb4 HWL.out).mono hle))
        have HD2 := Lib.hid (wtext_any ex w1.heap.size w1.heap.size _ _ (by omega) hw4 (by rw [List.length_append, fl_length]; omega))
        have HW4 := Lib.hid (Nat.le_of_lt (IsW.lt hw4))
        clear hnb4 hw4 hb4 HF hnb q4
        go_wp2_with (fail)
        refine HD2.out.mono ?_
        rintro e w5 ⟨rfl, hw5, hb5⟩
        have HB7 := Lib.hid (HB6.out.trans ((WS.below hb5 HW4.out).mono hle))
        rw [HP.out] at hw5
        obtain ⟨A2, c2, hcell, hcv⟩ := isW_bytes hw5
        clear hw5 hb5 HD2 HB6 HW4 q5
        generalize packB l _ ex = ys at *
        go_wp2
        go_ret2
        rw [HE.out]
        exact ⟨rfl, HB7.out⟩
end Go.Proofs.Ytnafeapbglflnaa
