/- The walks of depkey.Key and depkey.Pack. -/
import Derived.Test.YtnafeapbglflnaaDkB
import Derived.Test.YtnafeapbglflnaaPRefx4
namespace Go.Proofs.Ytnafeapbglflnaa
open Go.RowKit PRef Go.Proofs.YtnafeapbglflnaaW.PrintWords
set_option linter.unusedVariables false

/-- A dep that has none, and bytes. -/
def bareP (d : S43) : Bool := !d.f1 && !d.f2.toList.isEmpty
def depV (d : S43) : Value := .agg #[.string d.f0, .bool d.f1, .string d.f2]

theorem bare_any (d : S43) (w : World) : Calls Try.prog 22 #[depV d] w fun e w' => e = .returned (.bool (bareP d)) ∧ Below w.heap.size w w' := by
  obtain ⟨a, h, b⟩ := d
  unfold depV bareP
  cases h with
  | true =>
    go_enter Try.func22, Try.ntmps22
    go_wp2
    go_ret
    exact ⟨rfl, bel_alloc (Below.refl _ _) _⟩
  | false =>
    go_enter Try.func22, Try.ntmps22
    go_wp2
    go_ret
    exact ⟨rfl, bel_alloc (Below.refl _ _) _⟩

theorem any_take {α : Type} (l : List α) (d : α) (p : α → Bool) (k : Nat) (hk : k < l.length) : (l.take (k + 1)).any p = ((l.take k).any p || p (l.getD k d)) := by
  rw [List.take_succ_eq_append_getElem hk]
  rw [List.any_append]
  simp [List.getD_eq_getElem?_getD, List.getElem?_eq_getElem hk]
theorem any_of_take {α : Type} (l : List α) (p : α → Bool) (k : Nat) (h : (l.take k).any p = true) : l.any p = true := by
  rw [← List.take_append_drop k l, List.any_append, h]
  rfl

set_option maxHeartbeats 1000000 in
theorem index_dep (l : List S43) (A : Option Addr) (c : Nat) (w : World) (h : Kd.C k43 w A l.length l) (hl : l.length ≤ 140737488355328) :
    Calls Try.prog 40 #[.slice A l.length c, .func (.func 22) #[] #[]] w fun e w' => (∃ r : Int, e = .returned (.int .i64 r) ∧ decide (0 ≤ r) = l.any bareP) ∧ Below w.heap.size w w' := by
  have HH := Lib.hid h
  clear h
  go_enter Try.func40, Try.ntmps40
  go_wp2
  go_loopw [8] (fun iv wr => ∃ k : Nat, k ≤ l.length ∧ iv = .int .i64 k ∧ Hid ((l.take k).any bareP = false) ∧ Below w.heap.size w wr) (fun iv _ => l.length - (intOf iv).toNat)
  case atStart => exact ⟨0, Nat.zero_le _, rfl, rfl, Below.refl _ _⟩
  case round =>
    obtain ⟨k, hk, rfl, hany, hbw⟩ := hrel
    by_cases hlt : k < l.length
    · obtain ⟨ad, rfl, c0, c1, c2⟩ := at_T43 (Kd.C_below HH.out hbw) k (by omega) (by omega)
      have HB := Lib.hid hbw
      clear hbw
      rw [Int.toNat_natCast] at c0 c1 c2
      have e1 : 0 ≤ (k : Int) := by omega
      have e2 : (k : Int) < l.length := by omega
      have HX : Hid (rd_T43 l k = l.getD k z43) := Lib.hid (by unfold rd_T43; rw [Int.toNat_natCast])
      have HA := Lib.hid (any_take l z43 bareP k hlt)
      generalize rd_T43 l k = x at *
      have HC := Lib.hid (bare_any x)
      go_wp2_with (fail)
      refine (HC.out wr).mono ?_
      rintro e w1 ⟨rfl, hb1⟩
      have HB1 := Lib.hid (bel_trans HB.out hb1)
      clear hb1 HB c0 c1 c2
      cases hp : bareP x
      · have HP := Lib.hid hp
        clear hp
        go_wp2
        go_roundw
        case rel => exact ⟨k + 1, by omega, by go_num, Lib.hid (by rw [HA.out, hany.out, ← HX.out, HP.out]; rfl), HB1.out⟩
        case measure => simp [intOf]; omega
      · have HP := Lib.hid hp
        clear hp
        go_wp2
        go_ret
        exact ⟨⟨k, rfl, by rw [any_of_take l bareP (k + 1) (by rw [HA.out, ← HX.out, HP.out]; simp)]; exact decide_eq_true e1⟩, HB1.out⟩
    · obtain rfl : k = l.length := by omega
      have HB := Lib.hid hbw
      clear hbw
      go_wp2
      go_ret
      exact ⟨⟨-1, rfl, by rw [← List.take_length (l := l), hany.out]; rfl⟩, HB.out⟩

theorem contains_dep (l : List S43) (A : Option Addr) (c : Nat) (w : World) (h : Kd.C k43 w A l.length l) (hl : l.length ≤ 140737488355328) :
    Calls Try.prog 21 #[.slice A l.length c, .func (.func 22) #[] #[]] w fun e w' => e = .returned (.bool (l.any bareP)) ∧ Below w.heap.size w w' := by
  have HC := Lib.hid (index_dep l A c w h hl)
  clear h
  go_enter Try.func21, Try.ntmps21
  go_wp2_with (fail)
  refine HC.out.mono ?_
  rintro e w1 ⟨⟨r, rfl, hr⟩, hb⟩
  have HR := Lib.hid hr
  have HB := Lib.hid hb
  clear hr hb HC
  go_wp2
  go_ret
  exact ⟨by rw [← HR.out]; rfl, HB.out⟩

/-- The bytes of a text, of a flag, of a dep. -/
def tx (s : ByteArray) : List UInt8 := be4 s.size ++ s.data.toList
theorem fl_length (b : Bool) : (fl b).length = 1 := rfl
def depB (d : S43) : List UInt8 := tx d.f0 ++ fl d.f1 ++ tx d.f2
def keyB (s : ByteArray) (l : List S43) : List UInt8 := tx s ++ be4 l.length ++ l.flatMap depB
def smallDep (d : S43) : Prop := d.f0.size ≤ 1000 ∧ d.f2.size ≤ 10000
theorem depB_length (d : S43) (h : smallDep d) : (depB d).length ≤ 11009 := by
  obtain ⟨h1, h2⟩ := h
  have e1 : d.f0.data.toList.length = d.f0.size := by simp
  have e2 : d.f2.data.toList.length = d.f2.size := by simp
  simp only [depB, tx, fl, List.length_append, be4_length, List.length_singleton]
  omega
theorem deps_length (l : List S43) (h : ∀ d ∈ l, smallDep d) : (l.flatMap depB).length ≤ 11009 * l.length := by
  induction l with
  | nil => simp
  | cons d l ih =>
    have h1 := depB_length d (h d List.mem_cons_self)
    have h2 := ih (fun x hx => h x (List.mem_cons_of_mem _ hx))
    simp only [List.flatMap_cons, List.length_append, List.length_cons]
    omega

theorem isW_bytes {base g : Nat} {xs : List UInt8} {w : World} (h : IsW base g xs w) : ∃ A c, w.cell? ⟨g, 0, none⟩ = some (.slice A xs.length c) ∧ (convert 49 9 (.slice A xs.length c)).run Try.prog w = .ok (.string ⟨xs.toArray⟩) w := by
  obtain ⟨v, hb, hbg, hown⟩ := h
  have hc := blk_cell hb 0
  rcases hown.2 with ⟨rfl, h0⟩ | ⟨g2, cap, cur, rfl, _⟩
  · have hx : xs = [] := List.eq_nil_of_length_eq_zero h0
    subst hx
    exact ⟨none, 0, hc.trans rfl, run_convert_bytes_nil w 49 5 Try.underlying49 Try.underlying5 0 0 9 Try.underlying9⟩
  · refine ⟨_, cap, hc.trans rfl, ?_⟩
    have hcs := hown.cells (g := g2) rfl
    have hr := run_convert_bytes_arg (P := Try.prog) w 49 5 Try.underlying49 Try.underlying5 g2 0 xs.length cap (xs.map fun b => (b.toNat : Int)) (by simp) (fun i hi => by
      have h1 := hcs i (.int .u8 (xs[i].toNat : Int)) (by simp [u8s, List.getElem?_eq_getElem hi])
      rw [Addr.add_lit] at h1
      rw [h1]
      simp [List.getD_eq_getElem?_getD, List.getElem?_eq_getElem hi]) 9 Try.underlying9
    rw [hr]
    congr 2
    simp only [strOfNums, List.map_map]
    congr 2
    rw [show ((fun n : Int => UInt8.ofNat n.toNat) ∘ fun b : UInt8 => (b.toNat : Int)) = id from funext fun b => by simp]
    simp

theorem isW_new (w : World) : IsW w.heap.size w.heap.size [] (w.alloc (.cells #[.slice none 0 0] 51)) :=
  ⟨.slice none 0 0, blk_new _ _, Nat.le_refl _, World.ownsRow_nil _ _ _ _⟩

def keyF (s : ByteArray) (l : List S43) : ByteArray × Int := if (5000 < l.length ∨ l.any bareP = true) then (⟨#[]⟩, 170) else (⟨(keyB s l).toArray⟩, 0)

theorem key_big (s : ByteArray) (l : List S43) (A : Option Addr) (c : Nat) (w : World) (hl : 5000 < l.length) :
    Calls Try.prog 11 #[.string s, .slice A l.length c] w fun e w' => e = .returned (.tuple #[.string (keyF s l).1, .int .i64 (keyF s l).2]) ∧ Below w.heap.size w w' := by
  have HE : Hid (keyF s l = (⟨#[]⟩, 170)) := Lib.hid (by unfold keyF; rw [if_pos (.inl hl)])
  have hd : decide ((5000 : Int) < l.length) = true := decide_eq_true (by omega)
  go_enter Try.func11, Try.ntmps11
  go_wp2_with (fail)
  go_ret2
  rw [HE.out]
  exact ⟨rfl, Below.refl _ _⟩

theorem key_bare (s : ByteArray) (l : List S43) (A : Option Addr) (c : Nat) (w : World) (h : Kd.C k43 w A l.length l) (hl : l.length ≤ 5000) (hb : l.any bareP = true) :
    Calls Try.prog 11 #[.string s, .slice A l.length c] w fun e w' => e = .returned (.tuple #[.string (keyF s l).1, .int .i64 (keyF s l).2]) ∧ Below w.heap.size w w' := by
  have HE : Hid (keyF s l = (⟨#[]⟩, 170)) := Lib.hid (by unfold keyF; rw [if_pos (.inr hb)])
  have hd : decide ((5000 : Int) < l.length) = false := decide_eq_false (by omega)
  have hc := contains_dep l A c w h (by omega)
  rw [hb] at hc
  have HC := Lib.hid hc
  clear hc h hb
  go_enter Try.func11, Try.ntmps11
  go_wp2_with (fail)
  refine HC.out.mono ?_
  rintro e w1 ⟨rfl, hb⟩
  have HB := Lib.hid hb
  clear hb HC
  go_wp2
  go_ret2
  rw [HE.out]
  exact ⟨rfl, HB.out⟩

set_option maxHeartbeats 2000000 in
theorem key_yes (s : ByteArray) (l : List S43) (A : Option Addr) (c : Nat) (w : World) (h : Kd.C k43 w A l.length l) (hl : l.length ≤ 5000) (hK : (keyB s l).length ≤ 3000000) (hb : l.any bareP = false) :
    Calls Try.prog 11 #[.string s, .slice A l.length c] w fun e w' => e = .returned (.tuple #[.string (keyF s l).1, .int .i64 (keyF s l).2]) ∧ Below w.heap.size w w' := by
  have hs : s.size ≤ 3000000 := by
    have h0 := hK
    simp only [keyB, tx, List.length_append, be4_length, Array.length_toList] at h0
    have : s.data.size = s.size := rfl
    omega
  have hpre : ∀ k, (tx s ++ be4 l.length ++ (l.take k).flatMap depB).length ≤ 3000000 := by
    intro k
    have h0 := hK
    rw [keyB, ← List.take_append_drop k (l.flatMap depB), List.take_append_drop] at h0
    have h1 : (l.flatMap depB).length = ((l.take k).flatMap depB).length + ((l.drop k).flatMap depB).length := by
      rw [← List.length_append, ← List.flatMap_append, List.take_append_drop]
    rw [List.length_append] at h0 ⊢
    omega
  have hsm : ∀ d ∈ l, d.f0.size ≤ 3000000 ∧ d.f2.size ≤ 3000000 := by
    intro d hd
    have h0 := hK
    rw [keyB, List.length_append] at h0
    have h1 : (depB d).length ≤ (l.flatMap depB).length := by
      obtain ⟨l1, l2, rfl⟩ := List.append_of_mem hd
      rw [List.flatMap_append, List.flatMap_cons, List.length_append, List.length_append]
      omega
    simp only [depB, tx, fl, List.length_append, be4_length, List.length_singleton, Array.length_toList] at h1
    have e1 : d.f0.data.size = d.f0.size := rfl
    have e2 : d.f2.data.size = d.f2.size := rfl
    omega
  have HPRE := Lib.hid hpre
  have HE : Hid (keyF s l = (⟨(keyB s l).toArray⟩, 0)) := Lib.hid (by unfold keyF; rw [if_neg (by rw [hb]; rintro (h | h); omega; cases h)])
  have hd : decide ((5000 : Int) < l.length) = false := decide_eq_false (by omega)
  have hc := contains_dep l A c w h (by omega)
  rw [hb] at hc
  have HC := Lib.hid hc
  have HH := Lib.hid h
  have HSM := Lib.hid hsm
  clear hc h hb hsm hpre
  go_enter Try.func11, Try.ntmps11
  go_wp2_with (fail)
  refine HC.out.mono ?_
  rintro e w1 ⟨rfl, hb1⟩
  have HB1 := Lib.hid hb1
  clear hb1 HC
  have hW := isW_new w1
  have hle : w.heap.size ≤ w1.heap.size := HB1.out.size
  have HB2 := Lib.hid (bel_alloc HB1.out (.cells #[.slice none 0 0] 51))
  have HLT : Hid (w1.heap.size < (w1.alloc (.cells #[.slice none 0 0] 51)).heap.size) := Lib.hid (by simp)
  have HC1 := Lib.hid (wtext_any s w1.heap.size w1.heap.size [] _ (by omega) hW (by simp))
  clear hW
  go_wp2_with (fail)
  refine HC1.out.mono ?_
  rintro e w2 ⟨rfl, hw2, hb2⟩
  have HB3 := Lib.hid (HB2.out.trans ((WS.below hb2 (by have := HLT.out; omega)).mono hle))
  have hlen1 : ([] ++ be4 s.size ++ s.data.toList).length ≤ 3000004 := by simp [be4_length]; omega
  have HC2 := Lib.hid (num_any l.length w1.heap.size w1.heap.size _ w2 (by omega) hw2 (by omega))
  have HW2 := Lib.hid hw2
  clear hw2 hb2 HC1 HB2 HLT hlen1
  go_wp2_with (fail)
  refine HC2.out.mono ?_
  rintro e w3 ⟨rfl, hw3, hb3⟩
  have HB4 := Lib.hid (HB3.out.trans ((WS.below hb3 (Nat.le_of_lt (IsW.lt HW2.out))).mono hle))
  have HW4 : Hid (IsW w1.heap.size w1.heap.size (tx s ++ be4 l.length) w3) := Lib.hid (by simpa [tx] using hw3)
  clear hw3 hb3 HC2 HB3 HW2
  go_wp2_with (fail)
  go_loopw [27] (fun iv wr => ∃ k : Nat, k ≤ l.length ∧ iv = .int .i64 k ∧ Hid (IsW w1.heap.size w1.heap.size (tx s ++ be4 l.length ++ (l.take k).flatMap depB) wr) ∧ Hid (Below w.heap.size w wr)) (fun iv _ => l.length - (intOf iv).toNat)
  case atStart => exact ⟨0, Nat.zero_le _, rfl, Lib.hid (by simpa using HW4.out), HB4⟩
  case round =>
    obtain ⟨k, hk, rfl, hW, hbw⟩ := hrel
    clear HW4 HB4
    by_cases hlt : k < l.length
    · obtain ⟨ad, rfl, c0, c1, c2⟩ := at_T43 (Kd.C_below HH.out hbw.out) k (by omega) (by omega)
      rw [Int.toNat_natCast] at c0 c1 c2
      have e1 : 0 ≤ (k : Int) := by omega
      have e2 : (k : Int) < l.length := by omega
      have hx : rd_T43 l k = l.getD k z43 := by unfold rd_T43; rw [Int.toNat_natCast]
      have hm : l.getD k z43 ∈ l := by rw [List.getD_eq_getElem?_getD, List.getElem?_eq_getElem hlt]; exact List.getElem_mem hlt
      have ht : (l.take (k + 1)).flatMap depB = (l.take k).flatMap depB ++ depB (l.getD k z43) := by
        rw [List.take_succ_eq_append_getElem hlt, List.flatMap_append]
        simp [List.getD_eq_getElem?_getD, List.getElem?_eq_getElem hlt]
      have hsd := HSM.out _ hm
      have hlen := HPRE.out k
      rw [← hx] at hm ht hsd
      have HT := Lib.hid ht
      clear hx hm ht
      generalize rd_T43 l k = x at *
      obtain ⟨n1, n2⟩ := hsd
      generalize hxs : tx s ++ be4 l.length ++ (l.take k).flatMap depB = xs at *
      have HXS := Lib.hid hxs
      clear hxs
      have hW5 := hW.out
      have HLT := Lib.hid (IsW.lt hW5)
      have hW6 : Hid (IsW w1.heap.size w1.heap.size xs (wr.alloc (.cells #[.string x.f0, .bool x.f1, .string x.f2] 43))) := by
        obtain ⟨v, q1, q2, q3⟩ := hW5
        exact Lib.hid ⟨v, blk_alloc q1 _, q2, q3.alloc _⟩
      have HNB := Lib.hid (blk_new wr (.cells #[.string x.f0, .bool x.f1, .string x.f2] 43))
      have HB5 := Lib.hid (bel_alloc hbw.out (.cells #[.string x.f0, .bool x.f1, .string x.f2] 43))
      clear hW hW5
      have HD1 := Lib.hid (wtext_any x.f0 w1.heap.size w1.heap.size xs _ (by omega) hW6.out (by omega))
      have hl1 : (xs ++ be4 x.f0.size ++ x.f0.data.toList).length ≤ 6000004 := by simp only [List.length_append, be4_length, Array.length_toList]; have : x.f0.data.size = x.f0.size := rfl; omega
      go_wp2_with (fail)
      refine HD1.out.mono ?_
      rintro e w4 ⟨rfl, hw4, hb4⟩
      clear c0 c1 c2
      have hnb4 := WS.blk hb4 HNB.out (by decide) (by have := HLT.out; omega)
      have q1 : w4.cell? ⟨wr.heap.size, 1, none⟩ = some (.bool x.f1) := (blk_cell hnb4 1).trans rfl
      have HNB4 := Lib.hid hnb4
      have HB6 := Lib.hid (HB5.out.trans ((WS.below hb4 (Nat.le_of_lt (IsW.lt hW6.out))).mono hle))
      have HD2 := Lib.hid (wflag_any x.f1 w1.heap.size w1.heap.size _ _ hw4 (by omega))
      have HW4 := Lib.hid (Nat.le_of_lt (IsW.lt hw4))
      have hl2 : (xs ++ be4 x.f0.size ++ x.f0.data.toList ++ fl x.f1).length ≤ 6000005 := by rw [List.length_append, fl_length]; omega
      clear hnb4 hw4 hb4 HD1 HB5 HNB hW6 hl1
      go_wp2_with (fail)
      refine HD2.out.mono ?_
      rintro e w5 ⟨rfl, hw5, hb5⟩
      have hnb5 := WS.blk hb5 HNB4.out (by decide) (by have := HLT.out; omega)
      have q2 : w5.cell? ⟨wr.heap.size, 2, none⟩ = some (.string x.f2) := (blk_cell hnb5 2).trans rfl
      have HB7 := Lib.hid (HB6.out.trans ((WS.below hb5 HW4.out).mono hle))
      have HD3 := Lib.hid (wtext_any x.f2 w1.heap.size w1.heap.size _ _ (by omega) hw5 (by omega))
      have HW5 := Lib.hid (Nat.le_of_lt (IsW.lt hw5))
      clear hnb5 hw5 hb5 HD2 HB6 HNB4 HW4 hl2 q1
      go_wp2_with (fail)
      refine HD3.out.mono ?_
      rintro e w6 ⟨rfl, hw6, hb6⟩
      have HB8 := Lib.hid (HB7.out.trans ((WS.below hb6 HW5.out).mono hle))
      have HW6 := Lib.hid hw6
      clear hw6 hb6 HD3 HB7 HW5 q2
      go_wp2
      go_roundw
      case rel =>
        refine ⟨k + 1, by omega, by go_num, Lib.hid ?_, HB8⟩
        rw [HT.out, ← List.append_assoc, HXS.out]
        simpa [depB, tx, fl] using HW6.out
      case measure => simp [intOf]; omega
    · obtain rfl : k = l.length := by omega
      obtain ⟨A2, c2, hcell, hcv⟩ := isW_bytes hW.out
      have HK : Hid (tx s ++ be4 l.length ++ (l.take l.length).flatMap depB = keyB s l) := Lib.hid (by rw [List.take_length]; rfl)
      clear hW
      generalize tx s ++ be4 l.length ++ (l.take l.length).flatMap depB = xs at *
      go_wp2
      go_ret2
      rw [HE.out, ← HK.out]
      exact ⟨rfl, hbw.out⟩
end Go.Proofs.Ytnafeapbglflnaa
