/- The walk of depkey.Split. -/
import Derived.Test.YtnafeapbglflnaaDkD
import Derived.WalkMore
namespace Go.Proofs.Ytnafeapbglflnaa
open Go.RowKit PRef Go.Proofs.YtnafeapbglflnaaW.PrintWords
set_option linter.unusedVariables false

theorem flat_at {α β : Type} (enc : α → List β) (sz : Nat) (hlen : ∀ x, (enc x).length = sz) : ∀ (l : List α) (j i : Nat) (p : α), l[j]? = some p → i < sz → (l.flatMap enc)[j * sz + i]? = (enc p)[i]?
  | [], j, i, p, h, _ => by simp at h
  | x :: l, 0, i, p, h, hi => by
    simp at h
    subst h
    rw [List.flatMap_cons, Nat.zero_mul, Nat.zero_add, List.getElem?_append_left (by rw [hlen]; exact hi)]
  | x :: l, j + 1, i, p, h, hi => by
    simp at h
    rw [List.flatMap_cons, List.getElem?_append_right (by rw [hlen, Nat.add_mul]; omega), hlen, show (j + 1) * sz + i - sz = j * sz + i by rw [Nat.add_mul]; omega]
    exact flat_at enc sz hlen l j i p h hi

theorem own_C {α : Type} {d : Kd α} {enc : α → List Value} {w : World} {base : Nat} {e : TypeId} {v : Value} {l : List α} (hlen : ∀ x, (enc x).length = d.sz) (hK : ∀ x ∈ l, d.K w x (enc x))
    (h : w.ownsRow base e d.sz v l.length (l.flatMap enc)) : ∃ A c, v = .slice A l.length c ∧ l.length ≤ c ∧ Kd.C d w A l.length l := by
  rcases h.2 with ⟨rfl, h0⟩ | ⟨g, cap, cur, rfl, _, _, hc, hm, _⟩
  · refine ⟨none, 0, by rw [h0], by omega, ?_⟩
    have hl : l = [] := List.eq_nil_of_length_eq_zero h0
    subst hl
    exact ⟨rfl, by simp, fun h => absurd h (by simp)⟩
  · refine ⟨_, cap, rfl, hc, rfl, by simp only [maxLen] at hm; omega, fun _ => ⟨_, rfl, fun j p hp => ⟨enc p, hlen p, hK p (List.mem_of_getElem? hp), fun i u hu => ?_⟩⟩⟩
    have hi : i < d.sz := by
      rw [← hlen p]
      exact (List.getElem?_eq_some_iff.1 hu).1
    exact h.cells (g := g) rfl _ _ ((flat_at enc d.sz hlen l j i p hp hi).trans hu)

def depCs (d : S43) : List Value := [.string d.f0, .bool d.f1, .string d.f2]

/-- The deps that a reader tells, so many at the most. -/
def depsF : Nat → ByteArray → Bool → List S43 → List S43 × ByteArray × Bool
  | 0, b, fine, acc => (acc, b, fine)
  | n + 1, b, fine, acc =>
    let r1 := rtextF b fine
    let r2 := flagF r1.2.1 r1.2.2
    let r3 := rtextF r2.2.1 r2.2.2
    let d : S43 := ⟨r1.1, r2.1, r3.1⟩
    if r3.2.2 = true ∧ bareP d = false then depsF n r3.2.1 true (acc ++ [d]) else (acc, r3.2.1, false)

def splitF (s : ByteArray) : ByteArray × List S43 × Int :=
  let t := rtextF s true
  let m := manyF t.2.1 t.2.2
  let r := depsF m.1 m.2.1 m.2.2 []
  if r.2.2 = true ∧ r.2.1.toList.isEmpty = true then (t.1, r.1, 0) else (⟨#[]⟩, [], 170)

theorem info43 : (Try.prog.info? 43).map (fun i => (i.zero, i.size, i.bytes)) = some (some (.agg #[.string ⟨#[]⟩, .bool false, .string ⟨#[]⟩]), 3, 40) := by kernel_rfl

/-- What Split's loop bears: k have been gone through of n. -/
structure SplitRel (w wr : World) (n : Nat) (goal : List S43 × ByteArray × Bool) (k : Nat) (v : Value) : Prop where
  le : k ≤ n
  ex : ∃ b fine acc, wr.heap[w.heap.size]? = some (.cells #[.string b, .bool fine] 60 (0, 0)) ∧ wr.ownsRow (w.heap.size + 1) 43 3 v acc.length (acc.flatMap depCs) ∧ Below w.heap.size w wr ∧ depsF (n - k) b fine acc = goal ∧ acc.length ≤ k ∧ (fine = true → n ≤ 5000)

set_option maxRecDepth 100000 in
set_option maxHeartbeats 4000000 in
theorem split_any (s : ByteArray) (w : World) :
    Calls Try.prog 13 #[.string s] w fun e w' => ∃ A c, e = .returned (.tuple #[.string (splitF s).1, .slice A (splitF s).2.1.length c, .int .i64 (splitF s).2.2]) ∧ (splitF s).2.1.length ≤ c ∧ Kd.C k43 w' A (splitF s).2.1.length (splitF s).2.1 ∧ Below w.heap.size w w' := by
  obtain ⟨i0, hi, hz0, hz1, hz2⟩ := info_parts info43
  have HNB := Lib.hid (blk_new w (.cells #[.string s, .bool true] 60))
  have HB0 := Lib.hid (bel_alloc (Below.refl w.heap.size w) (.cells #[.string s, .bool true] 60))
  have HC1 := Lib.hid (rtext_any s true w.heap.size _ HNB.out)
  have HE : Hid (splitF s = (if (depsF (manyF (rtextF s true).2.1 (rtextF s true).2.2).1 (manyF (rtextF s true).2.1 (rtextF s true).2.2).2.1 (manyF (rtextF s true).2.1 (rtextF s true).2.2).2.2 []).2.2 = true ∧ (depsF (manyF (rtextF s true).2.1 (rtextF s true).2.2).1 (manyF (rtextF s true).2.1 (rtextF s true).2.2).2.1 (manyF (rtextF s true).2.1 (rtextF s true).2.2).2.2 []).2.1.toList.isEmpty = true then ((rtextF s true).1, (depsF (manyF (rtextF s true).2.1 (rtextF s true).2.2).1 (manyF (rtextF s true).2.1 (rtextF s true).2.2).2.1 (manyF (rtextF s true).2.1 (rtextF s true).2.2).2.2 []).1, 0) else (⟨#[]⟩, [], 170))) := Lib.hid rfl
  generalize rtextF s true = t at *
  obtain ⟨t1, t2, t3⟩ := t
  simp only at HC1 HE
  have HM := Lib.hid (many_any t2 t3 w.heap.size)
  have HM5 : Hid ((manyF t2 t3).2.2 = true → (manyF t2 t3).1 ≤ 5000) := Lib.hid (by intro h; unfold manyF at h ⊢; simp only [Bool.and_eq_true, decide_eq_true_eq] at h; exact h.2)
  have HMB : Hid ((manyF t2 t3).1 ≤ 4294967296) := Lib.hid (by
    have h1 := numOf_lt (takeF t2 t3 4).1.data.toList
    have h2 := takeF_size t2 t3 4
    have h3 : (takeF t2 t3 4).1.data.toList.length ≤ 4 := by rw [Array.length_toList]; exact h2
    have h4 : 256 ^ (takeF t2 t3 4).1.data.toList.length ≤ 256 ^ 4 := Nat.pow_le_pow_right (by omega) h3
    unfold manyF numF
    simp only
    omega)
  generalize manyF t2 t3 = m at *
  obtain ⟨m1, m2, m3⟩ := m
  simp only at HM HM5 HMB HE
  generalize hg : depsF m1 m2 m3 [] = r at *
  have HG := Lib.hid hg
  clear hg
  go_enter Try.func13, Try.ntmps13
  go_wp2_with (fail)
  go_step3
  go_wp2_with (fail)
  refine HC1.out.mono ?_
  rintro e w1 ⟨rfl, hi1, hk1⟩
  have HI1 := Lib.hid hi1
  have HB1 : Hid (Below w.heap.size w w1) := Lib.hid (HB0.out.trans (hk1.below (by simp) (fun k hk => by omega)))
  clear hi1 hk1 HC1 HNB
  go_wp2_with (fail)
  go_step3
  go_wp2_with (fail)
  refine (HM.out w1 HI1.out).mono ?_
  rintro e w2 ⟨rfl, hi2, hk2⟩
  have HI2 := Lib.hid hi2
  have HB2 : Hid (Below w.heap.size w w2) := Lib.hid (HB1.out.trans (hk2.below HB1.out.size (fun k hk => by omega)))
  clear hi2 hk2 HM HI1 HB1 HB0
  have hmb := HMB.out
  go_wp2_with (fail)
  go_loopw [7, 16] (fun dv iv wr => ∃ k : Nat, iv = .int .i64 k ∧ SplitRel w wr m1 r k dv) (fun _ iv _ => m1 - (intOf iv).toNat)
  case atStart => exact ⟨0, rfl, ⟨Nat.zero_le _, m2, m3, [], HI2.out, World.ownsRow_nil _ _ _ _, HB2.out, by simpa using HG.out, Nat.zero_le _, HM5.out⟩⟩
  case round =>
    obtain ⟨k, rfl, R⟩ := hrel
    have hk := R.le
    obtain ⟨b, fine, acc, hI, hown, hbw, hG, hacc, h5⟩ := R.ex
    have HGk := Lib.hid hG
    have HB := Lib.hid hbw
    have HH5 := Lib.hid h5
    have HIr := Lib.hid hI
    clear R hG hbw h5 HI2 HB2
    by_cases hlt : k < m1
    · obtain ⟨q, hq⟩ : ∃ q, m1 - k = q + 1 := ⟨m1 - k - 1, by omega⟩
      have hq2 : m1 - (k + 1) = q := by omega
      rw [hq] at HGk
      have HQ2 := Lib.hid hq2
      have HD : Hid ((if (rtextF (flagF (rtextF b fine).2.1 (rtextF b fine).2.2).2.1 (flagF (rtextF b fine).2.1 (rtextF b fine).2.2).2.2).2.2 = true ∧ bareP ⟨(rtextF b fine).1, (flagF (rtextF b fine).2.1 (rtextF b fine).2.2).1, (rtextF (flagF (rtextF b fine).2.1 (rtextF b fine).2.2).2.1 (flagF (rtextF b fine).2.1 (rtextF b fine).2.2).2.2).1⟩ = false then depsF q (rtextF (flagF (rtextF b fine).2.1 (rtextF b fine).2.2).2.1 (flagF (rtextF b fine).2.1 (rtextF b fine).2.2).2.2).2.1 true (acc ++ [⟨(rtextF b fine).1, (flagF (rtextF b fine).2.1 (rtextF b fine).2.2).1, (rtextF (flagF (rtextF b fine).2.1 (rtextF b fine).2.2).2.1 (flagF (rtextF b fine).2.1 (rtextF b fine).2.2).2.2).1⟩]) else (acc, (rtextF (flagF (rtextF b fine).2.1 (rtextF b fine).2.2).2.1 (flagF (rtextF b fine).2.1 (rtextF b fine).2.2).2.2).2.1, false)) = r) := Lib.hid HGk.out
      have HX1 := Lib.hid (rtext_any b fine w.heap.size wr HIr.out)
      have HF1 : Hid ((rtextF (flagF (rtextF b fine).2.1 (rtextF b fine).2.2).2.1 (flagF (rtextF b fine).2.1 (rtextF b fine).2.2).2.2).2.2 = true → fine = true) := by
        refine Lib.hid fun h => ?_
        have f1 : ∀ b n f, (takeF b f n).2.2 = true → f = true := by intro b n f h; unfold takeF at h; split at h; rename_i h2; exact h2.1; cases h
        have f2 : ∀ b f, (numF b f).2.2 = true → f = true := by intro b f h; unfold numF at h; simp only [Bool.and_eq_true] at h; exact f1 _ _ _ h.1
        have f3 : ∀ b f, (rtextF b f).2.2 = true → f = true := by intro b f h; unfold rtextF at h; exact f2 _ _ (f1 _ _ _ h)
        have f4 : ∀ b f, (flagF b f).2.2 = true → f = true := by intro b f h; unfold flagF at h; simp only [Bool.and_eq_true] at h; exact f1 _ _ _ h.1
        exact f3 _ _ (f4 _ _ (f3 _ _ h))
      clear HGk hq hq2 HIr
      generalize rtextF b fine = x1 at *
      obtain ⟨a1, b1, g1⟩ := x1
      simp only at HD HX1 HF1
      have HX2 := Lib.hid (rflag_any b1 g1 w.heap.size)
      generalize flagF b1 g1 = x2 at *
      obtain ⟨a2, b2, g2⟩ := x2
      simp only at HD HX2 HF1
      have HX3 := Lib.hid (rtext_any b2 g2 w.heap.size)
      generalize rtextF b2 g2 = x3 at *
      obtain ⟨a3, b3, g3⟩ := x3
      simp only at HD HX3 HF1
      have HOWN := Lib.hid hown
      have HWS : Hid (w.heap.size ≤ wr.heap.size) := Lib.hid HB.out.size
      clear hI hown
      go_wp2_with (fail)
      refine HX1.out.mono ?_
      rintro e w3 ⟨rfl, hi3, hk3⟩
      have HI3 := Lib.hid hi3
      have HK3 := Lib.hid hk3
      clear hi3 hk3 HX1
      go_wp2_with (fail)
      refine (HX2.out w3 HI3.out).mono ?_
      rintro e w4 ⟨rfl, hi4, hk4⟩
      have HI4 := Lib.hid hi4
      have HK4 := Lib.hid (HK3.out.same hk4)
      clear hi4 hk4 HX2 HI3 HK3
      go_wp2_with (fail)
      refine (HX3.out w4 HI4.out).mono ?_
      rintro e w5 ⟨rfl, hi5, hk5⟩
      have HK5 := Lib.hid (HK4.out.same hk5)
      have hlt5 := blk_lt hi5
      have HI5 := Lib.hid (blk_alloc hi5 (.cells #[.string a1, .bool a2, .string a3] 43))
      have HOW5 := Lib.hid ((own_keeps HOWN.out HK5.out (fun g hg e => by have := own_base HOWN.out g hg; omega)).alloc (.cells #[.string a1, .bool a2, .string a3] 43))
      have HNB5 := Lib.hid (blk_new w5 (.cells #[.string a1, .bool a2, .string a3] 43))
      have HBw5 : Hid (Below w.heap.size w w5) := Lib.hid (HB.out.trans (HK5.out.below HWS.out (fun j hj => by omega)))
      have HB5 : Hid (Below w.heap.size w (w5.alloc (.cells #[.string a1, .bool a2, .string a3] 43))) := Lib.hid (bel_alloc (HB.out.trans (HK5.out.below HWS.out (fun j hj => by omega))) _)
      have q1 : w5.cell? ⟨w.heap.size, 1, none⟩ = some (.bool g3) := (blk_cell hi5 1).trans rfl
      have f1 := blk_free hi5 1
      clear hi5 hk5 HX3 HI4 HK4 HK5 HOWN HB
      have HERR : Hid (∀ (W : World), Below w.heap.size w W → r.2.2 = false → ∃ A c, Ending.returned (.tuple #[.string ⟨#[]⟩, .slice none 0 0, .int .i64 170]) = .returned (.tuple #[.string (splitF s).1, .slice A (splitF s).2.1.length c, .int .i64 (splitF s).2.2]) ∧ (splitF s).2.1.length ≤ c ∧ Kd.C k43 W A (splitF s).2.1.length (splitF s).2.1 ∧ Below w.heap.size w W) := by
        refine Lib.hid fun W hB hr => ?_
        have e : splitF s = (⟨#[]⟩, [], 170) := by rw [HE.out, if_neg (by rw [hr]; simp)]
        rw [e]
        exact ⟨none, 0, rfl, Nat.le_refl _, ⟨rfl, by simp, fun h => absurd h (by simp)⟩, hB⟩
      cases g3 with
      | false =>
        have HR : Hid (r.2.2 = false) := Lib.hid (by rw [← HD.out, if_neg (by simp)])
        go_wp2_with (fail)
        rw [Exit.noGoto_ret]
        go_ret3
        exact HERR.out _ (bel_alloc (HBw5.out.setCell (by simp) _) _) HR.out
      | true =>
        have HBare := Lib.hid (bare_any ⟨a1, a2, a3⟩)
        go_wp2_with (fail)
        refine (HBare.out _).mono ?_
        rintro e w6 ⟨rfl, hb6⟩
        have hi6 := blk_later hb6 HI5.out
        have hn6 := blk_later hb6 HNB5.out
        have HOW6 := Lib.hid (own_later HOW5.out hb6)
        have HB6 := Lib.hid (bel_trans HB5.out hb6)
        have q2 : w6.cell? ⟨w.heap.size, 1, none⟩ = some (.bool true) := (blk_cell hi6 1).trans rfl
        have f2 := blk_free hi6 1
        have d0 : w6.cell? ⟨w5.heap.size, 0, none⟩ = some (.string a1) := (blk_cell hn6 0).trans rfl
        have d1 : w6.cell? ⟨w5.heap.size, 1, none⟩ = some (.bool a2) := (blk_cell hn6 1).trans rfl
        have d2 : w6.cell? ⟨w5.heap.size, 2, none⟩ = some (.string a3) := (blk_cell hn6 2).trans rfl
        have HI6 := Lib.hid hi6
        have hlt6 := blk_lt hi6
        clear hb6 hi6 hn6 HBare HB5 HOW5 HNB5 HI5 q1 f1
        cases hp : bareP ⟨a1, a2, a3⟩ with
        | true =>
          have HR : Hid (r.2.2 = false) := Lib.hid (by rw [← HD.out, if_neg (by rw [hp]; simp)])
          clear hp
          go_wp2_with (fail)
          rw [Exit.noGoto_ret]
          go_ret3
          exact HERR.out _ (HB6.out.setCell (by simp) _) HR.out
        | false =>
          have HR := Lib.hid (show depsF q b3 true (acc ++ [⟨a1, a2, a3⟩]) = r by rw [← HD.out, if_pos ⟨trivial, hp⟩])
          have h5k := HH5.out (HF1.out trivial)
          clear hp
          have hown6 := HOW6.out.alloc (.cells #[.string a1, .bool a2, .string a3] 43)
          have hne : u7.ownBlock ≠ some w.heap.size := fun e => by have := own_base HOW6.out _ e; omega
          have HNE := Lib.hid hne
          clear hne
          go_wp2_with (at_builtin; refine wpList_append_own _ rfl _ _ 23 rfl (w.heap.size + 1) 43 i0 (.agg #[.string ⟨#[]⟩, .bool false, .string ⟨#[]⟩]) 3 40 Try.underlying23 hi hz0 hz1 hz2 rfl (by decide) u7 acc.length (acc.flatMap depCs) rfl hown6 ⟨w6.heap.size, 0, none⟩ 1 1 [.string a1, .bool a2, .string a3] rfl rfl ?c1 ?c2 ?c3 ?c4 ?c5 ?_)
          case c1 =>
            intro j u hu
            rw [Addr.add_lit, Nat.zero_add, blk_cell (blk_new w6 _) j]
            simpa using hu
          case c2 => intro u hu; simp at hu; rcases hu with rfl | rfl | rfl <;> rfl
          case c3 => unfold maxLen; omega
          case c4 => omega
          case c5 => simp; omega
          intro v' w7 hown7 hg7 _
          have hi7 : w7.heap[w.heap.size]? = some (.cells #[.string b3, .bool true] 60 (0, 0)) := (hg7.block _ (by simp; omega) (fun e => HNE.out e.symm)).trans (blk_alloc HI6.out _)
          have hb7 : Below w.heap.size w w7 := Below.grown (bel_alloc HB6.out _) hg7 (by simp; omega) (fun j hj => by have := own_base HOW6.out j hj; omega)
          have HI7 := Lib.hid hi7
          have HB7 := Lib.hid hb7
          have HOW7 : Hid (w7.ownsRow (w.heap.size + 1) 43 3 v' (acc ++ [(⟨a1, a2, a3⟩ : S43)]).length ((acc ++ [(⟨a1, a2, a3⟩ : S43)]).flatMap depCs)) := Lib.hid (by simpa [depCs] using hown7)
          clear hown7 hg7 hi7 hb7 hown6 q2 f2 d0 d1 d2
          go_wp2
          go_roundw
          case rel =>
            refine ⟨k + 1, by go_num, by omega, b3, true, _, HI7.out, HOW7.out, HB7.out, ?_, by simp; omega, fun _ => h5k⟩
            rw [HQ2.out]
            exact HR.out
          case measure => simp [intOf]; omega
    · obtain rfl : k = m1 := by omega
      rw [Nat.sub_self] at HGk
      have hr : r = (acc, b, fine) := by rw [← HGk.out]; rfl
      subst hr
      have q1 : wr.cell? ⟨w.heap.size, 1, none⟩ = some (.bool fine) := (blk_cell hI 1).trans rfl
      have q0 : wr.cell? ⟨w.heap.size, 0, none⟩ = some (.string b) := (blk_cell hI 0).trans rfl
      simp only at HE
      have HOWN := Lib.hid hown
      clear hI hown HGk HIr
      have HERR : Hid (∀ (W : World), Below w.heap.size w W → (fine = false ∨ b.toList.isEmpty = false) → ∃ A c, Ending.returned (.tuple #[.string ⟨#[]⟩, .slice none 0 0, .int .i64 170]) = .returned (.tuple #[.string (splitF s).1, .slice A (splitF s).2.1.length c, .int .i64 (splitF s).2.2]) ∧ (splitF s).2.1.length ≤ c ∧ Kd.C k43 W A (splitF s).2.1.length (splitF s).2.1 ∧ Below w.heap.size w W) := by
        refine Lib.hid fun W hB hr => ?_
        have e : splitF s = (⟨#[]⟩, [], 170) := by rw [HE.out, if_neg (by rintro ⟨h1, h2⟩; rcases hr with h | h <;> simp_all)]
        rw [e]
        exact ⟨none, 0, rfl, Nat.le_refl _, ⟨rfl, by simp, fun h => absurd h (by simp)⟩, hB⟩
      cases fine with
      | false =>
        go_wp2_with (fail)
        go_ret3
        exact HERR.out _ HB.out (by simp)
      | true =>
        cases hbe : b.toList.isEmpty with
        | false =>
          go_wp2_with (fail)
          go_ret3
          exact HERR.out _ HB.out (.inr hbe)
        | true =>
          have HS : Hid (splitF s = (t1, acc, 0)) := Lib.hid (by rw [HE.out, if_pos ⟨rfl, hbe⟩])
          obtain ⟨A, c, rfl, hc, hC⟩ := own_C (d := k43) (enc := depCs) (fun _ => rfl) (fun x _ => k43_mk wr x) HOWN.out
          have HCC := Lib.hid hC
          have HCL := Lib.hid hc
          clear hC hc
          go_wp2_with (fail)
          go_ret3
          rw [HS.out]
          exact ⟨A, c, rfl, HCL.out, HCC.out, HB.out⟩
end Go.Proofs.Ytnafeapbglflnaa
