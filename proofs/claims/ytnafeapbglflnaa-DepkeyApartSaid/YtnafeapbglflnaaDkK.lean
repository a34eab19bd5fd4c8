/- The walk of the document's Split. -/
import Derived.Test.YtnafeapbglflnaaDkJ
import Derived.WalkMore
namespace Go.Proofs.Ytnafeapbglflnaa
open Go.RowKit PRef Go.Proofs.YtnafeapbglflnaaW.PrintWords
set_option linter.unusedVariables false

theorem depsF_false (b : ByteArray) (acc : List S43) : ∀ n, (depsF n b false acc).2.2 = false
  | 0 => rfl
  | n + 1 => by
    unfold depsF
    simp only
    rw [rtextF_false', flagF_false, rtextF_false', if_neg (by simp)]

abbrev splitBad : ByteArray × List S43 × Int := (⟨#[]⟩, [], 170)

/-- What is known of Split's answer behind k deps. -/
def SplitQ (B t : ByteArray) (m k a : Nat) (lost : Bool) (acc : List S43) : Prop :=
  (lost = true → splitF B = splitBad) ∧ (lost = false → splitF B = if (depsF (m - k) (B.extract a B.size) true acc).2.2 = true ∧ (depsF (m - k) (B.extract a B.size) true acc).2.1.toList.isEmpty = true then (t, (depsF (m - k) (B.extract a B.size) true acc).1, 0) else splitBad)

theorem splitQ_start (B t : ByteArray) (a1 : Nat) (l1 : Bool) (m a2 : Nat) (l2 : Bool) (h1 : RelQ B 0 false rtextF t a1 l1) (h2 : RelQ B a1 l1 manyF m a2 l2) : SplitQ B t m 0 a2 l2 [] := by
  have e0 : B.extract 0 B.size = B := ByteArray.extract_zero_size
  obtain ⟨_, p1, p2, p3⟩ := h1
  obtain ⟨_, q1, q2, q3⟩ := h2
  rw [e0] at p2 p3
  constructor
  · rintro rfl
    have hm : (manyF (rtextF B true).2.1 (rtextF B true).2.2).2.2 = false := by
      cases l1 with
      | true => rw [p2 rfl rfl, manyF_false]
      | false => rw [p3 rfl rfl]; exact q2 rfl rfl
    unfold splitF
    simp only
    rw [hm, depsF_false, if_neg (by simp)]
  · rintro rfl
    obtain rfl : l1 = false := by cases l1; rfl; exact absurd (q1 rfl) (by simp)
    unfold splitF
    simp only
    rw [p3 rfl rfl]
    simp only
    rw [q3 rfl rfl]
    rfl

theorem splitQ_step (B t : ByteArray) (m k a : Nat) (acc : List S43) (hk : k < m) (h : SplitQ B t m k a false acc) (d : S43) (a1 a2 a3 : Nat) (l1 l2 l3 : Bool) (h1 : RelQ B a false rtextF d.f0 a1 l1) (h2 : RelQ B a1 l1 flagF d.f1 a2 l2) (h3 : RelQ B a2 l2 rtextF d.f2 a3 l3) :
    SplitQ B t m (k + 1) a3 (l3 || bareP d) (acc ++ [d]) := by
  obtain ⟨_, e⟩ := h
  have e := e rfl
  obtain ⟨q, hq⟩ : ∃ q, m - k = q + 1 := ⟨m - k - 1, by omega⟩
  have hq2 : m - (k + 1) = q := by omega
  rw [hq] at e
  unfold SplitQ
  rw [hq2]
  obtain ⟨_, p1, p2, p3⟩ := h1
  obtain ⟨_, q1, q2, q3⟩ := h2
  obtain ⟨_, r1, r2, r3⟩ := h3
  have hd : depsF (q + 1) (B.extract a B.size) true acc = if (rtextF (flagF (rtextF (B.extract a B.size) true).2.1 (rtextF (B.extract a B.size) true).2.2).2.1 (flagF (rtextF (B.extract a B.size) true).2.1 (rtextF (B.extract a B.size) true).2.2).2.2).2.2 = true ∧ bareP ⟨(rtextF (B.extract a B.size) true).1, (flagF (rtextF (B.extract a B.size) true).2.1 (rtextF (B.extract a B.size) true).2.2).1, (rtextF (flagF (rtextF (B.extract a B.size) true).2.1 (rtextF (B.extract a B.size) true).2.2).2.1 (flagF (rtextF (B.extract a B.size) true).2.1 (rtextF (B.extract a B.size) true).2.2).2.2).1⟩ = false then depsF q (rtextF (flagF (rtextF (B.extract a B.size) true).2.1 (rtextF (B.extract a B.size) true).2.2).2.1 (flagF (rtextF (B.extract a B.size) true).2.1 (rtextF (B.extract a B.size) true).2.2).2.2).2.1 true (acc ++ [⟨(rtextF (B.extract a B.size) true).1, (flagF (rtextF (B.extract a B.size) true).2.1 (rtextF (B.extract a B.size) true).2.2).1, (rtextF (flagF (rtextF (B.extract a B.size) true).2.1 (rtextF (B.extract a B.size) true).2.2).2.1 (flagF (rtextF (B.extract a B.size) true).2.1 (rtextF (B.extract a B.size) true).2.2).2.2).1⟩]) else (acc, (rtextF (flagF (rtextF (B.extract a B.size) true).2.1 (rtextF (B.extract a B.size) true).2.2).2.1 (flagF (rtextF (B.extract a B.size) true).2.1 (rtextF (B.extract a B.size) true).2.2).2.2).2.1, false) := rfl
  cases l3 with
  | true =>
    constructor
    · intro _
      have h3 : (rtextF (flagF (rtextF (B.extract a B.size) true).2.1 (rtextF (B.extract a B.size) true).2.2).2.1 (flagF (rtextF (B.extract a B.size) true).2.1 (rtextF (B.extract a B.size) true).2.2).2.2).2.2 = false := by
        cases l1 with
        | true => rw [p2 rfl rfl, flagF_false, rtextF_false']
        | false =>
          rw [p3 rfl rfl]
          simp only
          cases l2 with
          | true => rw [q2 rfl rfl, rtextF_false']
          | false => rw [q3 rfl rfl]; exact r2 rfl rfl
      rw [hd, if_neg (by rw [h3]; simp)] at e
      simpa using e
    · intro h; simp at h
  | false =>
    obtain rfl : l2 = false := by cases l2; rfl; exact absurd (r1 rfl) (by simp)
    obtain rfl : l1 = false := by cases l1; rfl; exact absurd (q1 rfl) (by simp)
    rw [hd, p3 rfl rfl] at e
    simp only at e
    rw [q3 rfl rfl] at e
    simp only at e
    rw [r3 rfl rfl] at e
    simp only at e
    cases hb : bareP d with
    | true =>
      rw [if_neg (by rw [show bareP ⟨d.f0, d.f1, d.f2⟩ = true from hb]; simp)] at e
      exact ⟨fun _ => by simpa using e, fun h => by simp at h⟩
    | false =>
      simp only [show bareP ⟨d.f0, d.f1, d.f2⟩ = false from hb, and_self, if_true] at e
      exact ⟨(fun h => by simp at h), fun _ => e⟩

theorem bytes_size {b : ByteArray} (h : b.toList.isEmpty = true) : b.size = 0 := by
  rw [ByteArray.toList_eq, List.isEmpty_iff] at h
  have h2 : b.data.toList.length = b.size := Array.length_toList
  rw [h] at h2
  exact h2.symm
theorem bytes_empty {b : ByteArray} (h : b.size = 0) : b.toList.isEmpty = true := by
  rw [ByteArray.toList_eq, List.isEmpty_iff]
  have h2 : b.data.toList.length = b.size := Array.length_toList
  exact List.eq_nil_of_length_eq_zero (h2.trans h)
theorem own_keepBut {w w' : World} {base : Nat} {e : TypeId} {size n : Nat} {v : Value} {xs : List Value} {g : Nat} (h : w.ownsRow base e size v n xs) (hk : KeepBut w w' g none) (hg : g < base) : w'.ownsRow base e size v n xs :=
  own_kept h fun k hv => hk.2 k (h.lt k hv).2 (by have := own_base h k hv; omega) (by simp)
theorem blk_keepBut {w w' : World} {g b : Nat} {o : Obj} (hb : w.heap[b]? = some o) (hk : KeepBut w w' g none) (hg : b ≠ g) : w'.heap[b]? = some o := (hk.2 b (blk_lt hb) hg (by simp)).trans hb

set_option maxRecDepth 100000 in
set_option maxHeartbeats 4000000 in
theorem qsplit_any (s : ByteArray) (w : World) (hs : s.size ≤ 100000) :
    Calls Try.prog 14 #[.string s] w fun e w' => ∃ A c, e = .returned (.tuple #[.string (splitF s).1, .slice A (splitF s).2.1.length c, .int .i64 (splitF s).2.2]) ∧ (splitF s).2.1.length ≤ c ∧ Kd.C k43 w' A (splitF s).2.1.length (splitF s).2.1 ∧ Below w.heap.size w w' := by
  obtain ⟨i0, hi, hz0, hz1, hz2⟩ := info_parts info43
  have HS := Lib.hid hs
  obtain ⟨t, a1, l1, h1, hc1⟩ := text_c s hs 0 (Nat.zero_le _) false
  obtain ⟨m, a2, l2, hm, h2, hc2⟩ := many_c s hs a1 h1.1 l1
  have HST := Lib.hid (splitQ_start s t a1 l1 m a2 l2 h1 h2)
  have HA2 := Lib.hid h2.1
  have HM := Lib.hid hm
  have HC1 := Lib.hid (hc1 w (w.alloc (.cells #[.string s, .int .i64 0, .bool false] 65)) w.heap.size (IsS65.new w w s 0 false (Below.refl _ _)) (bel_alloc (Below.refl _ _) _))
  have HC2 := Lib.hid hc2
  clear h1 h2 hc1 hc2 hs hm
  go_enter Try.func14, Try.ntmps14
  go_wp2_with (fail)
  refine HC1.out.mono ?_
  rintro e w1 ⟨rfl, hI1, hb1, hk1⟩
  have HC3 := Lib.hid (HC2.out w w1 w.heap.size hI1 hb1)
  clear hI1 hb1 hk1 HC1 HC2
  go_wp2_with (fail)
  refine HC3.out.mono ?_
  rintro e w2 ⟨rfl, hI2, hb2, hk2⟩
  have HI2 := Lib.hid hI2
  have HB2 := Lib.hid hb2
  clear hI2 hb2 hk2 HC3
  have hm' := HM.out
  go_wp2_with (fail)
  go_loopw [7, 9] (fun dv iv wr => ∃ (k : Nat) (a : Nat) (lost : Bool) (acc : List S43), k ≤ m ∧ iv = .int .i64 k ∧ a ≤ s.size ∧ Hid (IsS65 w wr w.heap.size s a lost) ∧ Hid (Below w.heap.size w wr) ∧ Hid (wr.ownsRow (w.heap.size + 1) 43 3 dv acc.length (acc.flatMap depCs)) ∧ acc.length ≤ k ∧ Hid (SplitQ s t m k a lost acc)) (fun _ iv _ => m - (intOf iv).toNat)
  case atStart => exact ⟨0, a2, l2, [], Nat.zero_le _, rfl, HA2.out, HI2, HB2, Lib.hid (World.ownsRow_nil _ _ _ _), Nat.zero_le _, HST⟩
  case round =>
    obtain ⟨k, a, lost, acc, hk, rfl, ha, HI, HB, HOW, hacc, HQ⟩ := hrel
    clear HI2 HB2 HST HA2
    have q2 := cellS65_2 HI.out.1
    by_cases hgo : k < m ∧ lost = false
    · obtain ⟨hlt, rfl⟩ := hgo
      obtain ⟨x0, b1, g1, r1, hd1⟩ := text_c s HS.out a ha false
      obtain ⟨x1, b2, g2, r2, hd2⟩ := flag_c s HS.out b1 r1.1 g1
      obtain ⟨x2, b3, g3, r3, hd3⟩ := text_c s HS.out b2 r2.1 g2
      have hb3 := r3.1
      have HN := Lib.hid (splitQ_step s t m k a acc hlt HQ.out ⟨x0, x1, x2⟩ b1 b2 b3 g1 g2 g3 r1 r2 r3)
      have HD1 := Lib.hid (hd1 w wr w.heap.size HI.out HB.out)
      have HD2 := Lib.hid hd2
      have HD3 := Lib.hid hd3
      clear r1 r2 r3 hd1 hd2 hd3 HQ
      go_wp2_with (fail)
      refine HD1.out.mono ?_
      rintro e w3 ⟨rfl, hI3, hb3', hk3⟩
      have HI4 := Lib.hid (hI3.alloc (.cells #[.string x0, .bool false, .string ⟨#[]⟩] 43))
      have HB4 := Lib.hid (bel_alloc hb3' (.cells #[.string x0, .bool false, .string ⟨#[]⟩] 43))
      have HN4 := Lib.hid (blk_new w3 (.cells #[.string x0, .bool false, .string ⟨#[]⟩] 43))
      have HNE : Hid (w.heap.size ≠ w3.heap.size) := Lib.hid (by have := hI3.lt; omega)
      have HLE : Hid (w.heap.size ≤ w3.heap.size) := Lib.hid hb3'.size
      have how3 := own_keepBut HOW.out hk3 (by omega)
      have HX : Hid (∀ k, u7.ownBlock = some k → w.heap.size + 1 ≤ k ∧ k < w3.heap.size) := Lib.hid (fun k hk => ⟨own_base how3 k hk, (how3.lt k hk).2⟩)
      have HOW4 := Lib.hid (how3.alloc (.cells #[.string x0, .bool false, .string ⟨#[]⟩] 43))
      clear hI3 hb3' hk3 HD1 how3
      go_wp2_with (fail)
      refine (HD2.out w _ w.heap.size HI4.out HB4.out).mono ?_
      rintro e w5 ⟨rfl, hI5, hb5, hk5⟩
      have hn5 := blk_keepBut HN4.out hk5 (by have := HNE.out; omega)
      have c1 : w5.cell? ⟨w3.heap.size, 1, none⟩ = some (.bool false) := (blk_cell hn5 1).trans rfl
      have f1 := blk_free hn5 1
      have HN6 : Hid ((w5.setCell ⟨w3.heap.size, 1, none⟩ (.bool x1)).heap[w3.heap.size]? = some (.cells #[.string x0, .bool x1, .string ⟨#[]⟩] 43 (0, 0))) := Lib.hid (by simpa using blk_set hn5 1 (.bool x1))
      have HI6 := Lib.hid (hI5.far (p := ⟨w3.heap.size, 1, none⟩) HNE.out (.bool x1))
      have HB6 : Hid (Below w.heap.size w (w5.setCell ⟨w3.heap.size, 1, none⟩ (.bool x1))) := Lib.hid (hb5.setCell HLE.out _)
      have HOW6 : Hid ((w5.setCell ⟨w3.heap.size, 1, none⟩ (.bool x1)).ownsRow (w.heap.size + 1) 43 3 u7 acc.length (acc.flatMap depCs)) := Lib.hid (own_kept (own_keepBut HOW4.out hk5 (by omega)) (fun k hk => blk_far _ _ _ _ _ (by have := HX.out k hk; omega)))
      clear hI5 hb5 hk5 hn5 HD2 HI4 HB4 HN4 HOW4
      go_wp2_with (fail)
      refine (HD3.out w _ w.heap.size HI6.out HB6.out).mono ?_
      rintro e w7 ⟨rfl, hI7, hb7, hk7⟩
      have HI7 := Lib.hid hI7
      have HB7 := Lib.hid hb7
      have HN7 := Lib.hid (blk_keepBut HN6.out hk7 (by have := HNE.out; omega))
      have HOW7 := Lib.hid (own_keepBut HOW6.out hk7 (by omega))
      clear hI7 hb7 hk7 HN6 HI6 HB6 HOW6 HD3 c1 f1
      have hlen : acc.length ≤ 4294967296 := by omega
      cases x1 with
      | true =>
        have hn7 := HN7.out
        have a0 : w7.cell? ⟨w3.heap.size, 0, none⟩ = some (.string x0) := (blk_cell hn7 0).trans rfl
        have a1 : w7.cell? ⟨w3.heap.size, 1, none⟩ = some (.bool true) := (blk_cell hn7 1).trans rfl
        have a2 : w7.cell? ⟨w3.heap.size, 2, none⟩ = some (.string ⟨#[]⟩) := (blk_cell hn7 2).trans rfl
        have f2 := blk_free hn7 2
        have i2 := cellS65_2 HI7.out.1
        have fi2 := blk_free HI7.out.1 2
        have hne := HNE.out
        have hne' := HNE.out.symm
        have HN := Lib.hid (show SplitQ s t m (k + 1) b3 g3 (acc ++ [⟨x0, true, x2⟩]) by simpa [bareP] using HN.out)
        have HB8 : Hid (Below w.heap.size w (w7.setCell ⟨w3.heap.size, 2, none⟩ (.string x2))) := Lib.hid (HB7.out.setCell HLE.out _)
        have HI8 : Hid (IsS65 w (w7.setCell ⟨w3.heap.size, 2, none⟩ (.string x2)) w.heap.size s b3 g3) := Lib.hid (HI7.out.far (p := ⟨w3.heap.size, 2, none⟩) HNE.out _)
        have HOW8 : Hid ((w7.setCell ⟨w3.heap.size, 2, none⟩ (.string x2)).ownsRow (w.heap.size + 1) 43 3 u7 acc.length (acc.flatMap depCs)) := Lib.hid (own_kept HOW7.out (fun k hk => blk_far _ _ _ _ _ (by have := HX.out k hk; omega)))
        have hsz : w.heap.size < w7.heap.size := HI7.out.lt
        clear hn7
        have HNB := Lib.hid (show ((w7.setCell ⟨w3.heap.size, 2, none⟩ (.string x2)).alloc (.cells #[.string x0, .bool true, .string x2] 43)).heap[w7.heap.size]? = some (.cells #[.string x0, .bool true, .string x2] 43 (0, 0)) by simpa using blk_new (w7.setCell ⟨w3.heap.size, 2, none⟩ (.string x2)) (.cells #[.string x0, .bool true, .string x2] 43))
        go_wp2_with (at_builtin; refine wpList_append_own _ rfl _ _ 23 rfl (w.heap.size + 1) 43 i0 (.agg #[.string ⟨#[]⟩, .bool false, .string ⟨#[]⟩]) 3 40 Try.underlying23 hi hz0 hz1 hz2 rfl (by decide) u7 acc.length (acc.flatMap depCs) rfl (HOW8.out.alloc _) ⟨w7.heap.size, 0, none⟩ 1 1 [.string x0, .bool true, .string x2] rfl rfl (World.news_of_block HNB.out) (by simp [Value.oneCell']) (by unfold maxLen; omega) (by omega) (by simp; omega) ?_)
        intro v' w9 hown9 hg9 _
        have hI9 : IsS65 w w9 w.heap.size s b3 g3 := ⟨(hg9.block _ (by simp; omega) (fun e => by have := HX.out _ e.symm; omega)).trans (HI8.out.alloc _).1, HI8.out.2⟩
        have HI9 := Lib.hid hI9
        have HB9 : Hid (Below w.heap.size w w9) := Lib.hid (Below.grown (bel_alloc HB8.out _) hg9 (by simp; omega) (fun j hj => by have := HX.out j hj; omega))
        have HOW9 : Hid (w9.ownsRow (w.heap.size + 1) 43 3 v' (acc ++ [(⟨x0, true, x2⟩ : S43)]).length ((acc ++ [(⟨x0, true, x2⟩ : S43)]).flatMap depCs)) := Lib.hid (by simpa [depCs] using hown9)
        clear hown9 hg9 hI9 a0 a1 a2 f2 i2 fi2
        go_wp2_with (fail)
        go_roundw
        case rel => exact ⟨k + 1, b3, g3, _, by omega, by go_num, hb3, HI9, HB9, HOW9, by simp; omega, HN⟩
        case measure => simp [intOf]; omega
      | false =>
        cases hx2 : x2.toList.isEmpty with
        | true =>
          have hn7 := HN7.out
          have a0 : w7.cell? ⟨w3.heap.size, 0, none⟩ = some (.string x0) := (blk_cell hn7 0).trans rfl
          have a1 : w7.cell? ⟨w3.heap.size, 1, none⟩ = some (.bool false) := (blk_cell hn7 1).trans rfl
          have a2 : w7.cell? ⟨w3.heap.size, 2, none⟩ = some (.string ⟨#[]⟩) := (blk_cell hn7 2).trans rfl
          have f2 := blk_free hn7 2
          have i2 := cellS65_2 HI7.out.1
          have fi2 := blk_free HI7.out.1 2
          have hne := HNE.out
          have hne' := HNE.out.symm
          have HN := Lib.hid (show SplitQ s t m (k + 1) b3 g3 (acc ++ [⟨x0, false, x2⟩]) by simpa [bareP, hx2] using HN.out)
          have HB8 : Hid (Below w.heap.size w (w7.setCell ⟨w3.heap.size, 2, none⟩ (.string x2))) := Lib.hid (HB7.out.setCell HLE.out _)
          have HI8 : Hid (IsS65 w (w7.setCell ⟨w3.heap.size, 2, none⟩ (.string x2)) w.heap.size s b3 g3) := Lib.hid (HI7.out.far (p := ⟨w3.heap.size, 2, none⟩) HNE.out _)
          have HOW8 : Hid ((w7.setCell ⟨w3.heap.size, 2, none⟩ (.string x2)).ownsRow (w.heap.size + 1) 43 3 u7 acc.length (acc.flatMap depCs)) := Lib.hid (own_kept HOW7.out (fun k hk => blk_far _ _ _ _ _ (by have := HX.out k hk; omega)))
          have hsz : w.heap.size < w7.heap.size := HI7.out.lt
          clear hn7
          have HNB := Lib.hid (show ((w7.setCell ⟨w3.heap.size, 2, none⟩ (.string x2)).alloc (.cells #[.string x0, .bool false, .string x2] 43)).heap[w7.heap.size]? = some (.cells #[.string x0, .bool false, .string x2] 43 (0, 0)) by simpa using blk_new (w7.setCell ⟨w3.heap.size, 2, none⟩ (.string x2)) (.cells #[.string x0, .bool false, .string x2] 43))
          go_wp2_with (at_builtin; refine wpList_append_own _ rfl _ _ 23 rfl (w.heap.size + 1) 43 i0 (.agg #[.string ⟨#[]⟩, .bool false, .string ⟨#[]⟩]) 3 40 Try.underlying23 hi hz0 hz1 hz2 rfl (by decide) u7 acc.length (acc.flatMap depCs) rfl (HOW8.out.alloc _) ⟨w7.heap.size, 0, none⟩ 1 1 [.string x0, .bool false, .string x2] rfl rfl (World.news_of_block HNB.out) (by simp [Value.oneCell']) (by unfold maxLen; omega) (by omega) (by simp; omega) ?_)
          intro v' w9 hown9 hg9 _
          have hI9 : IsS65 w w9 w.heap.size s b3 g3 := ⟨(hg9.block _ (by simp; omega) (fun e => by have := HX.out _ e.symm; omega)).trans (HI8.out.alloc _).1, HI8.out.2⟩
          have HI9 := Lib.hid hI9
          have HB9 : Hid (Below w.heap.size w w9) := Lib.hid (Below.grown (bel_alloc HB8.out _) hg9 (by simp; omega) (fun j hj => by have := HX.out j hj; omega))
          have HOW9 : Hid (w9.ownsRow (w.heap.size + 1) 43 3 v' (acc ++ [(⟨x0, false, x2⟩ : S43)]).length ((acc ++ [(⟨x0, false, x2⟩ : S43)]).flatMap depCs)) := Lib.hid (by simpa [depCs] using hown9)
          clear hown9 hg9 hI9 a0 a1 a2 f2 i2 fi2
          go_wp2_with (fail)
          go_roundw
          case rel => exact ⟨k + 1, b3, g3, _, by omega, by go_num, hb3, HI9, HB9, HOW9, by simp; omega, HN⟩
          case measure => simp [intOf]; omega
        | false =>
          have hn7 := HN7.out
          have a0 : w7.cell? ⟨w3.heap.size, 0, none⟩ = some (.string x0) := (blk_cell hn7 0).trans rfl
          have a1 : w7.cell? ⟨w3.heap.size, 1, none⟩ = some (.bool false) := (blk_cell hn7 1).trans rfl
          have a2 : w7.cell? ⟨w3.heap.size, 2, none⟩ = some (.string ⟨#[]⟩) := (blk_cell hn7 2).trans rfl
          have f2 := blk_free hn7 2
          have i2 := cellS65_2 HI7.out.1
          have fi2 := blk_free HI7.out.1 2
          have hne := HNE.out
          have hne' := HNE.out.symm
          have HN := Lib.hid (show SplitQ s t m (k + 1) b3 true (acc ++ [⟨x0, false, x2⟩]) by simpa [bareP, hx2] using HN.out)
          have HB8 : Hid (Below w.heap.size w ((w7.setCell ⟨w3.heap.size, 2, none⟩ (.string x2)).setCell ⟨w.heap.size, 2, none⟩ (.bool true))) := Lib.hid ((HB7.out.setCell HLE.out _).setCell (Nat.le_refl _) _)
          have HI8 : Hid (IsS65 w ((w7.setCell ⟨w3.heap.size, 2, none⟩ (.string x2)).setCell ⟨w.heap.size, 2, none⟩ (.bool true)) w.heap.size s b3 true) := Lib.hid ((HI7.out.far (p := ⟨w3.heap.size, 2, none⟩) HNE.out _).set_2 true)
          have HOW8 : Hid (((w7.setCell ⟨w3.heap.size, 2, none⟩ (.string x2)).setCell ⟨w.heap.size, 2, none⟩ (.bool true)).ownsRow (w.heap.size + 1) 43 3 u7 acc.length (acc.flatMap depCs)) := Lib.hid (own_kept HOW7.out (fun k hk => (blk_far _ _ _ _ _ (by have := HX.out k hk; omega)).trans (blk_far _ _ _ _ _ (by have := HX.out k hk; omega))))
          have hsz : w.heap.size < w7.heap.size := HI7.out.lt
          clear hn7
          have HNB := Lib.hid (show (((w7.setCell ⟨w3.heap.size, 2, none⟩ (.string x2)).setCell ⟨w.heap.size, 2, none⟩ (.bool true)).alloc (.cells #[.string x0, .bool false, .string x2] 43)).heap[w7.heap.size]? = some (.cells #[.string x0, .bool false, .string x2] 43 (0, 0)) by simpa using blk_new ((w7.setCell ⟨w3.heap.size, 2, none⟩ (.string x2)).setCell ⟨w.heap.size, 2, none⟩ (.bool true)) (.cells #[.string x0, .bool false, .string x2] 43))
          go_wp2_with (at_builtin; refine wpList_append_own _ rfl _ _ 23 rfl (w.heap.size + 1) 43 i0 (.agg #[.string ⟨#[]⟩, .bool false, .string ⟨#[]⟩]) 3 40 Try.underlying23 hi hz0 hz1 hz2 rfl (by decide) u7 acc.length (acc.flatMap depCs) rfl (HOW8.out.alloc _) ⟨w7.heap.size, 0, none⟩ 1 1 [.string x0, .bool false, .string x2] rfl rfl (World.news_of_block HNB.out) (by simp [Value.oneCell']) (by unfold maxLen; omega) (by omega) (by simp; omega) ?_)
          intro v' w9 hown9 hg9 _
          have hI9 : IsS65 w w9 w.heap.size s b3 true := ⟨(hg9.block _ (by simp; omega) (fun e => by have := HX.out _ e.symm; omega)).trans (HI8.out.alloc _).1, HI8.out.2⟩
          have HI9 := Lib.hid hI9
          have HB9 : Hid (Below w.heap.size w w9) := Lib.hid (Below.grown (bel_alloc HB8.out _) hg9 (by simp; omega) (fun j hj => by have := HX.out j hj; omega))
          have HOW9 : Hid (w9.ownsRow (w.heap.size + 1) 43 3 v' (acc ++ [(⟨x0, false, x2⟩ : S43)]).length ((acc ++ [(⟨x0, false, x2⟩ : S43)]).flatMap depCs)) := Lib.hid (by simpa [depCs] using hown9)
          clear hown9 hg9 hI9 a0 a1 a2 f2 i2 fi2
          go_wp2_with (fail)
          go_roundw
          case rel => exact ⟨k + 1, b3, true, _, by omega, by go_num, hb3, HI9, HB9, HOW9, by simp; omega, HN⟩
          case measure => simp [intOf]; omega
    · have hkc : (k < m ∧ lost = true) ∨ (k = m) := by cases lost <;> simp_all <;> omega
      have HERR : Hid (∀ (W : World), Below w.heap.size w W → splitF s = splitBad → ∃ A c, Ending.returned (.tuple #[.string ⟨#[]⟩, .slice none 0 0, .int .i64 170]) = .returned (.tuple #[.string (splitF s).1, .slice A (splitF s).2.1.length c, .int .i64 (splitF s).2.2]) ∧ (splitF s).2.1.length ≤ c ∧ Kd.C k43 W A (splitF s).2.1.length (splitF s).2.1 ∧ Below w.heap.size w W) := by
        refine Lib.hid fun W hB e => ?_
        rw [e]
        exact ⟨none, 0, rfl, Nat.le_refl _, ⟨rfl, by simp, fun h => absurd h (by simp)⟩, hB⟩
      have q1 := cellS65_1 HI.out.1
      have HBB := HB
      clear hgo HB
      rcases hkc with ⟨hkc, rfl⟩ | rfl
      · have HE := Lib.hid (HQ.out.1 rfl)
        clear HQ
        go_wp2_with (fail)
        go_ret3
        exact HERR.out _ HBB.out HE.out
      · cases lost with
        | true =>
          have HE := Lib.hid (HQ.out.1 rfl)
          clear HQ
          go_wp2_with (fail)
          go_ret3
          exact HERR.out _ HBB.out HE.out
        | false =>
          have HE := HQ.out.2 rfl
          rw [Nat.sub_self] at HE
          have HE2 := Lib.hid HE
          have hsz := ext_size s a ha
          clear HQ HE
          by_cases hend : a = s.size
          · have HE3 : Hid (splitF s = (t, acc, 0)) := Lib.hid (HE2.out.trans (if_pos ⟨rfl, by
              show (s.extract a s.size).toList.isEmpty = true
              exact bytes_empty (by omega)⟩))
            subst hend
            obtain ⟨A, c, rfl, hc, hC⟩ := own_C (d := k43) (enc := depCs) (fun _ => rfl) (fun x _ => k43_mk wr x) HOW.out
            have HCC := Lib.hid hC
            have HCL := Lib.hid hc
            clear hC hc hsz
            go_wp2_with (fail)
            go_ret3
            rw [HE3.out]
            exact ⟨A, c, rfl, HCL.out, HCC.out, HBB.out⟩
          · have HE3 : Hid (splitF s = splitBad) := Lib.hid (HE2.out.trans (if_neg (by
              rintro ⟨_, h⟩
              have h2 : (s.extract a s.size).size = 0 := bytes_size h
              rw [ext_size s a ha] at h2
              exact hend (by omega))))
            have hne : ((a : Int) == s.size) = false := by simp; omega
            clear hsz
            go_wp2_with (fail)
            go_ret3
            exact HERR.out _ HBB.out HE3.out
end Go.Proofs.Ytnafeapbglflnaa
