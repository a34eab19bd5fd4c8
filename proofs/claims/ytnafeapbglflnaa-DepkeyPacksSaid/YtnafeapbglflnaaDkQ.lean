/- The laws DepkeyApart, DepkeyPacks. -/
import Derived.Test.YtnafeapbglflnaaDkP
namespace Go.Proofs.Ytnafeapbglflnaa
open Go.RowKit PRef Go.Proofs.YtnafeapbglflnaaW.PrintWords
set_option linter.unusedVariables false

theorem split_key {s x : ByteArray} {l : List S43} (hf : FewP s l) (h : keyF s l = (x, 0)) : splitF x = (s, l, 0) := by
  obtain ⟨h1, h2, rfl⟩ := keyF_ok h
  obtain ⟨f1, f2 | ⟨f2, f3⟩⟩ := hf
  · omega
  · refine split_mk s l (by omega) h1 (fun d hd => ?_)
    obtain ⟨g1, g2⟩ := f3 d hd
    rw [List.any_eq_false] at h2
    exact ⟨by omega, by omega, by simpa using h2 d hd⟩
theorem key_inj {s t x : ByteArray} {l m : List S43} (hf : FewP s l) (hg : FewP t m) (h : keyF s l = (x, 0)) (h2 : keyF t m = (x, 0)) : s = t ∧ l = m := by
  have e := (split_key hf h).symm.trans (split_key hg h2)
  injection e with e1 e
  injection e with e2 _
  exact ⟨e1, e2⟩
theorem keyF_err (s : ByteArray) (l : List S43) : (keyF s l).2 = 0 ∨ (keyF s l).2 = 170 := by
  unfold keyF
  split
  · exact .inr rfl
  · exact .inl rfl
theorem packF_err (l : List S45) (has : Bool) (ex : ByteArray) : (packF l has ex).2 = 0 ∨ (packF l has ex).2 = 170 := by
  unfold packF
  split
  · exact .inr rfl
  · exact .inl rfl

set_option maxRecDepth 100000 in
set_option maxHeartbeats 1000000 in
theorem apart_any (s : ByteArray) (l : List S43) (A : Option Addr) (c : Nat) (t : ByteArray) (m : List S43) (B : Option Addr) (d : Nat) (w : World) (h : Kd.C k43 w A l.length l) (hc : l.length ≤ c) (h' : Kd.C k43 w B m.length m) (hd : m.length ≤ d) :
    Calls Try.prog 8 #[.string s, .slice A l.length c, .string t, .slice B m.length d] w fun e w' => e = .returned (.bool true) ∧ Below w.heap.size w w' := by
  obtain ⟨r, hr, hF⟩ := few_c s l (by have := h.2.1; omega)
  obtain ⟨r', hr', hF'⟩ := few_c t m (by have := h'.2.1; omega)
  obtain ⟨q, hq, hS⟩ := sameDeps_c l m (by have := h.2.1; omega)
  have HL := Lib.hid (fun (W : World) (hb : Below w.heap.size w W) => Kd.C_below h hb)
  have HM := Lib.hid (fun (W : World) (hb : Below w.heap.size w W) => Kd.C_below h' hb)
  have HC := Lib.hid (awake_any w)
  have HF := Lib.hid hF
  have HF' := Lib.hid hF'
  have HR := Lib.hid hr
  have HR' := Lib.hid hr'
  have HQ := Lib.hid hq
  have HS := Lib.hid hS
  clear h h' hF hr hF' hr' hq hS
  go_enter Try.func8, Try.ntmps8
  go_wp2_with (fail)
  refine HC.out.mono ?_
  rintro e w1 ⟨rfl, hb1⟩
  have HB := Lib.hid hb1
  clear hb1 HC
  go_wp2_with (fail)
  refine (HF.out A c _ (HL.out _ HB.out) hc).mono ?_
  rintro e w2 ⟨rfl, hb2⟩
  have HB2 := Lib.hid (bel_trans HB.out hb2)
  clear hb2 HF HB
  go_wp2_with (fail)
  refine (HF'.out B d _ (HM.out _ HB2.out) hd).mono ?_
  rintro e w3 ⟨rfl, hb3⟩
  have HB3 := Lib.hid (bel_trans HB2.out hb3)
  clear hb3 HF' HB2
  cases r with
  | false =>
    go_wp2_with (fail)
    go_ret
    exact ⟨rfl, HB3.out⟩
  | true =>
    cases r' with
    | false =>
      go_wp2_with (fail)
      go_ret
      exact ⟨rfl, HB3.out⟩
    | true =>
      have hf := HR.out rfl
      have hg := HR'.out rfl
      have HC1 := Lib.hid (fun (W : World) (hb : Below w.heap.size w W) => key_c s l A c W hf (HL.out W hb))
      have HC2 := Lib.hid (fun (W : World) (hb : Below w.heap.size w W) => key_c t m B d W hg (HM.out W hb))
      have hinj : ∀ x, keyF s l = (x, 0) → keyF t m = (x, 0) → s = t ∧ l = m := fun x h1 h2 => key_inj hf hg h1 h2
      have hsame : s = t → l = m → keyF s l = keyF t m := by rintro rfl rfl; rfl
      have e1 := keyF_err s l
      have e2 := keyF_err t m
      clear hf hg HR HR'
      generalize keyF s l = x at *
      generalize keyF t m = y at *
      obtain ⟨x1, x2⟩ := x
      obtain ⟨y1, y2⟩ := y
      simp only at HC1 HC2 e1 e2
      have HI := Lib.hid hinj
      have HSM := Lib.hid hsame
      have HE1 := Lib.hid e1
      have HE2 := Lib.hid e2
      clear hinj hsame e1 e2
      go_wp2_with (fail)
      refine (HC1.out _ HB3.out).mono ?_
      rintro e w4 ⟨rfl, hb4⟩
      have HB4 := Lib.hid (bel_trans HB3.out hb4)
      clear hb4 HC1 HB3
      go_wp2_with (fail)
      refine (HC2.out _ HB4.out).mono ?_
      rintro e w5 ⟨rfl, hb5⟩
      have HB5 := Lib.hid (bel_trans HB4.out hb5)
      clear hb5 HC2 HB4
      rcases HE1.out with rfl | rfl
      · rcases HE2.out with rfl | rfl
        · have HS1 := Lib.hid (HS.out A c B d w5 (HL.out _ HB5.out) hc (HM.out _ HB5.out) hd)
          clear HS HL HM
          go_wp2_with (fail)
          refine HS1.out.mono ?_
          rintro e w6 ⟨rfl, hb6⟩
          have HB6 := Lib.hid (bel_trans HB5.out hb6)
          clear hb6 HS1 HB5
          by_cases hst : s = t
          · have hst' : (s.toList == t.toList) = true := (bytes_beq s t).2 hst
            cases q with
            | true =>
              have hxy : (x1.toList == y1.toList) = true := (bytes_beq _ _).2 (by have h := HSM.out hst (HQ.out.1 rfl); injection h)
              clear HSM HI HQ hst
              go_wp2_with (fail)
              go_ret
              exact ⟨by first | rfl | simp [hst', hxy], HB6.out⟩
            | false =>
              have hxy : (x1.toList == y1.toList) = false := by
                cases hx : x1.toList == y1.toList with
                | false => rfl
                | true =>
                  obtain rfl := (bytes_beq _ _).1 hx
                  exact absurd (HQ.out.2 (HI.out x1 rfl rfl).2) (by simp)
              clear HSM HI HQ hst
              go_wp2_with (fail)
              go_ret
              exact ⟨by first | rfl | simp [hst', hxy], HB6.out⟩
          · have hst' : (s.toList == t.toList) = false := by
              cases hx : s.toList == t.toList with
              | false => rfl
              | true => exact absurd ((bytes_beq _ _).1 hx) hst
            have hxy : (x1.toList == y1.toList) = false := by
              cases hx : x1.toList == y1.toList with
              | false => rfl
              | true =>
                obtain rfl := (bytes_beq _ _).1 hx
                exact absurd (HI.out x1 rfl rfl).1 hst
            clear HSM HI HQ hst
            go_wp2_with (fail)
            go_ret
            exact ⟨by first | rfl | simp [hst', hxy], HB6.out⟩
        · go_wp2_with (fail)
          go_ret
          exact ⟨rfl, HB5.out⟩
      · go_wp2_with (fail)
        go_ret
        exact ⟨rfl, HB5.out⟩

set_option maxRecDepth 100000 in
set_option maxHeartbeats 2000000 in
theorem packs_any (l : List S45) (has : Bool) (ex : ByteArray) (A : Option Addr) (c : Nat) (b : ByteArray) (w : World) (h : Kd.C k45 w A l.length l) (hc : l.length ≤ c) :
    Calls Try.prog 6 #[.agg #[.slice A l.length c, .bool has, .string ex], .string b] w fun e w' => e = .returned (.bool true) ∧ Below w.heap.size w w' := by
  have HL := Lib.hid (fun (W : World) (hb : Below w.heap.size w W) => Kd.C_below h hb)
  have HA := Lib.hid (bel_alloc (Below.refl w.heap.size w) (.cells #[.slice A l.length c, .bool has, .string ex] 34))
  have HN := Lib.hid (blk_new w (.cells #[.slice A l.length c, .bool has, .string ex] 34))
  have HC := Lib.hid (awake_any (w.alloc (.cells #[.slice A l.length c, .bool has, .string ex] 34)))
  have hcs : decide ((100000 : Int) < b.size) = true ∨ (decide ((100000 : Int) < b.size) = false ∧ decide ((100000 : Int) < ex.size) = true) ∨ (decide ((100000 : Int) < b.size) = false ∧ decide ((100000 : Int) < ex.size) = false ∧ decide ((200 : Int) < l.length) = true ∧ decide ((l.length : Int) ≤ 5000) = true) ∨ (decide ((100000 : Int) < b.size) = false ∧ decide ((100000 : Int) < ex.size) = false ∧ decide ((200 : Int) < l.length) = true ∧ decide ((l.length : Int) ≤ 5000) = false) ∨ (decide ((100000 : Int) < b.size) = false ∧ decide ((100000 : Int) < ex.size) = false ∧ decide ((200 : Int) < l.length) = false) := by
    simp only [decide_eq_true_eq, decide_eq_false_iff_not]
    omega
  clear h
  have quick : ∀ (W : World), Below w.heap.size w W → (Ending.returned (.bool true) = Ending.returned (.bool true) ∧ Below w.heap.size w W) := fun W hb => ⟨rfl, hb⟩
  clear quick
  rcases hcs with z1 | ⟨z1, z2⟩ | ⟨z1, z2, z3, z4⟩ | ⟨z1, z2, z3, z4⟩ | ⟨z1, z2, z3⟩
  iterate 3
    · go_enter Try.func6, Try.ntmps6
      go_wp2_with (fail)
      refine HC.out.mono ?_
      rintro e w1 ⟨rfl, hb1⟩
      have hn := blk_later hb1 HN.out
      have HB := Lib.hid (bel_trans HA.out hb1)
      have q0 : w1.cell? ⟨w.heap.size, 0, none⟩ = some (.slice A l.length c) := (blk_cell hn 0).trans rfl
      have q2 : w1.cell? ⟨w.heap.size, 2, none⟩ = some (.string ex) := (blk_cell hn 2).trans rfl
      clear hb1 HC HA HN hn HL
      go_wp2_with (fail)
      go_ret
      exact ⟨rfl, HB.out⟩
  all_goals
    have hb : b.size ≤ 100000 := by simp only [decide_eq_false_iff_not] at z1; omega
    have he : ex.size ≤ 100000 := by simp only [decide_eq_false_iff_not] at z2; omega
    have HC1 := Lib.hid (fun (W : World) (hb : Below w.heap.size w W) => pack_c l has ex A c W he (HL.out W hb))
    have HC2 := Lib.hid (fun (W : World) (hb : Below w.heap.size w W) => qpack_any l has ex A c W (HL.out W hb) he)
    have HC3 := Lib.hid (fun (W : World) => unpack_any b W)
    have HC4 := Lib.hid (fun (W : World) => qunpack_any b W hb)
    clear hb he HL
    generalize packF l has ex = x at *
    obtain ⟨x1, x2⟩ := x
    generalize unpackF b = y at *
    obtain ⟨y1, y2, y3, y4⟩ := y
    simp only at HC1 HC2 HC3 HC4
    go_enter Try.func6, Try.ntmps6
    go_wp2_with (fail)
    refine HC.out.mono ?_
    rintro e w1 ⟨rfl, hb1⟩
    have hn := blk_later hb1 HN.out
    have HN1 := Lib.hid hn
    have HB := Lib.hid (bel_trans HA.out hb1)
    have q0 : w1.cell? ⟨w.heap.size, 0, none⟩ = some (.slice A l.length c) := (blk_cell hn 0).trans rfl
    have q1 : w1.cell? ⟨w.heap.size, 1, none⟩ = some (.bool has) := (blk_cell hn 1).trans rfl
    have q2 : w1.cell? ⟨w.heap.size, 2, none⟩ = some (.string ex) := (blk_cell hn 2).trans rfl
    clear hb1 HC HA HN hn
    go_wp2_with (fail)
    refine (HC1.out _ HB.out).mono ?_
    rintro e w2 ⟨rfl, hb2⟩
    have hn := blk_later hb2 HN1.out
    have HN2 := Lib.hid hn
    have HB2 := Lib.hid (bel_trans HB.out hb2)
    clear q0 q1 q2
    have q0 : w2.cell? ⟨w.heap.size, 0, none⟩ = some (.slice A l.length c) := (blk_cell hn 0).trans rfl
    have q1 : w2.cell? ⟨w.heap.size, 1, none⟩ = some (.bool has) := (blk_cell hn 1).trans rfl
    have q2 : w2.cell? ⟨w.heap.size, 2, none⟩ = some (.string ex) := (blk_cell hn 2).trans rfl
    clear hb2 HC1 HB HN1 hn
    go_wp2_with (fail)
    refine (HC2.out _ HB2.out).mono ?_
    rintro e w3 ⟨rfl, hb3⟩
    have HB3 := Lib.hid (bel_trans HB2.out hb3)
    clear q0 q1 q2 hb3 HC2 HB2 HN2
    go_wp2_with (fail)
    refine (HC3.out _).mono ?_
    rintro e w4 ⟨A4, c4, rfl, hc4, hC4, hb4⟩
    have HB4 := Lib.hid (bel_trans HB3.out hb4)
    have HU4 := Lib.hid hC4
    have HX4 := Lib.hid hc4
    have HN4 := Lib.hid (blk_new w4 (.cells #[.slice A4 y1.length c4, .bool y2, .string y3] 34))
    clear hb4 hC4 hc4 HC3 HB3
    go_wp2_with (fail)
    refine (HC4.out _).mono ?_
    rintro e w5 ⟨A5, c5, rfl, hc5, hC5, hb5⟩
    have HB5 := Lib.hid (bel_trans (bel_alloc HB4.out (.cells #[.slice A4 y1.length c4, .bool y2, .string y3] 34)) hb5)
    have hU := Kd.C_below HU4.out (bel_trans (bel_alloc (Below.refl w4.heap.size w4) (.cells #[.slice A4 y1.length c4, .bool y2, .string y3] 34)) hb5)
    have hn := blk_later hb5 HN4.out
    have q0 : w5.cell? ⟨w4.heap.size, 0, none⟩ = some (.slice A4 y1.length c4) := (blk_cell hn 0).trans rfl
    have q1 : w5.cell? ⟨w4.heap.size, 1, none⟩ = some (.bool y2) := (blk_cell hn 1).trans rfl
    have q2 : w5.cell? ⟨w4.heap.size, 2, none⟩ = some (.string y3) := (blk_cell hn 2).trans rfl
    obtain ⟨r, hr, hS⟩ := same_c y1 y2 y3 y1 y2 y3 (by have := hU.2.1; omega)
    obtain rfl : r = true := hr.2 ⟨rfl, rfl, rfl⟩
    have HS := Lib.hid (hS A4 c4 A5 c5 (w5.alloc (.cells #[.slice A5 y1.length c5, .bool y2, .string y3] 34)) (Kd.C_below hU (bel_alloc (Below.refl _ _) _)) HX4.out (Kd.C_below hC5 (bel_alloc (Below.refl _ _) _)) hc5)
    have hlt : w4.heap.size < w5.heap.size := blk_lt hn
    clear hb5 hC5 hc5 hU hn hr hS HC4 HB4 HU4 HX4 HN4
    go_wp2_with (fail)
    refine HS.out.mono ?_
    rintro e w6 ⟨rfl, hb6⟩
    have HB6 := Lib.hid (bel_trans (bel_alloc HB5.out (.cells #[.slice A5 y1.length c5, .bool y2, .string y3] 34)) hb6)
    clear hb6 HS HB5 q0 q1 q2
    go_wp2_with (fail)
    go_ret
    exact ⟨by simp, HB6.out⟩
end Go.Proofs.Ytnafeapbglflnaa
