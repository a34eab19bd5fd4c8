/- The law DepkeyBack. -/
import Derived.Test.YtnafeapbglflnaaDkQ
namespace Go.Proofs.Ytnafeapbglflnaa
open Go.RowKit PRef Go.Proofs.YtnafeapbglflnaaW.PrintWords
set_option linter.unusedVariables false

theorem splitF_err (s : ByteArray) : (splitF s).2.2 = 0 ∨ (splitF s).2.2 = 170 := by
  unfold splitF
  simp only
  split
  · exact .inl rfl
  · exact .inr rfl
theorem unpackF_err (s : ByteArray) : (unpackF s).2.2.2 = 0 ∨ (unpackF s).2.2.2 = 170 := by
  rw [unpackF_T]
  unfold unpackT
  split
  · exact .inl rfl
  · exact .inr rfl
theorem unpack_pack {l : List S45} {has : Bool} {ex b : ByteArray} (hx : ex.size ≤ 100000) (h : packF l has ex = (b, 0)) : unpackF b = (l, has, ex, 0) := by
  obtain ⟨h1, rfl⟩ := packF_ok h
  exact unpack_mk l has ex (by omega) h1

/-- The four parts of the law, as calls in whatever world. -/
structure BackFacts (s : ByteArray) (l : List S43) (o : List S45) (has : Bool) (ex b : ByteArray) (A : Option Addr) (c : Nat) (B : Option Addr) (d : Nat) (w : World) : Prop where
  key : ∀ W, Below w.heap.size w W → Calls Try.prog 11 #[.string s, .slice A l.length c] W fun e w' => e = .returned (.tuple #[.string (keyF s l).1, .int .i64 (keyF s l).2]) ∧ Below W.heap.size W w'
  split : (keyF s l).2 = 0 → ∀ W, Calls Try.prog 13 #[.string (keyF s l).1] W fun e w' => ∃ A' c', e = .returned (.tuple #[.string s, .slice A' l.length c', .int .i64 0]) ∧ l.length ≤ c' ∧ Kd.C k43 w' A' l.length l ∧ Below W.heap.size W w'
  sameD : ∀ A' c' W, Below w.heap.size w W → Kd.C k43 W A' l.length l → l.length ≤ c' → Calls Try.prog 15 #[.slice A' l.length c', .slice A l.length c] W fun e w' => e = .returned (.bool true) ∧ Below W.heap.size W w'
  pack : ∀ W, Below w.heap.size w W → Calls Try.prog 16 #[.agg #[.slice B o.length d, .bool has, .string ex]] W fun e w' => e = .returned (.tuple #[.string (packF o has ex).1, .int .i64 (packF o has ex).2]) ∧ Below W.heap.size W w'
  unpack : (packF o has ex).2 = 0 → ∀ W, Calls Try.prog 18 #[.string (packF o has ex).1] W fun e w' => ∃ A' c', e = .returned (.tuple #[.agg #[.slice A' o.length c', .bool has, .string ex], .int .i64 0]) ∧ o.length ≤ c' ∧ Kd.C k45 w' A' o.length o ∧ Below W.heap.size W w'
  same : ∀ A' c' W, Below w.heap.size w W → Kd.C k45 W A' o.length o → o.length ≤ c' → Calls Try.prog 20 #[.agg #[.slice A' o.length c', .bool has, .string ex], .agg #[.slice B o.length d, .bool has, .string ex]] W fun e w' => e = .returned (.bool true) ∧ Below W.heap.size W w'

theorem backFacts (s : ByteArray) (l : List S43) (o : List S45) (has : Bool) (ex b : ByteArray) (A : Option Addr) (c : Nat) (B : Option Addr) (d : Nat) (w : World) (hf : FewP s l) (he : ex.size ≤ 100000) (h : Kd.C k43 w A l.length l) (hc : l.length ≤ c) (h' : Kd.C k45 w B o.length o) (hd : o.length ≤ d) : BackFacts s l o has ex b A c B d w where
  key := fun W hb => key_c s l A c W hf (Kd.C_below h hb)
  split := by
    intro h0 W
    have e := split_key (x := (keyF s l).1) hf (Prod.ext rfl h0)
    have := split_any (keyF s l).1 W
    rw [e] at this
    exact this
  sameD := by
    intro A' c' W hb h1 h2
    obtain ⟨r, hr, hS⟩ := sameDeps_c l l (by have := h1.2.1; omega)
    obtain rfl : r = true := hr.2 rfl
    exact hS A' c' A c W h1 h2 (Kd.C_below h hb) hc
  pack := fun W hb => pack_c o has ex B d W he (Kd.C_below h' hb)
  unpack := by
    intro h0 W
    have e := unpack_pack (b := (packF o has ex).1) he (Prod.ext rfl h0)
    have := unpack_any (packF o has ex).1 W
    rw [e] at this
    exact this
  same := by
    intro A' c' W hb h1 h2
    obtain ⟨r, hr, hS⟩ := same_c o has ex o has ex (by have := h1.2.1; omega)
    obtain rfl : r = true := hr.2 ⟨rfl, rfl, rfl⟩
    exact hS A' c' B d W h1 h2 (Kd.C_below h' hb) hd

theorem key_back (b : ByteArray) (hb : b.size ≤ 100000) (h0 : (splitF b).2.2 = 0) (A : Option Addr) (c : Nat) (W : World) (h : Kd.C k43 W A (splitF b).2.1.length (splitF b).2.1) :
    Calls Try.prog 11 #[.string (splitF b).1, .slice A (splitF b).2.1.length c] W fun e w' => e = .returned (.tuple #[.string b, .int .i64 0]) ∧ Below W.heap.size W w' :=
  key_c2 _ b _ A c W (split_un (b := b) (t := (splitF b).1) (l := (splitF b).2.1) (e := 0) (Prod.ext rfl (Prod.ext rfl h0)) rfl) hb h
theorem pack_back (b : ByteArray) (hb : b.size ≤ 100000) (h0 : (unpackF b).2.2.2 = 0) (A : Option Addr) (c : Nat) (W : World) (h : Kd.C k45 W A (unpackF b).1.length (unpackF b).1) :
    Calls Try.prog 16 #[.agg #[.slice A (unpackF b).1.length c, .bool (unpackF b).2.1, .string (unpackF b).2.2.1]] W fun e w' => e = .returned (.tuple #[.string b, .int .i64 0]) ∧ Below W.heap.size W w' :=
  pack_c2 _ b _ _ A c W (unpack_un (b := b) (l := (unpackF b).1) (has := (unpackF b).2.1) (ex := (unpackF b).2.2.1) (e := 0) (Prod.ext rfl (Prod.ext rfl (Prod.ext rfl h0))) rfl) hb h

set_option maxRecDepth 100000 in
set_option maxHeartbeats 4000000 in
theorem back_any (s : ByteArray) (l : List S43) (A : Option Addr) (c : Nat) (o : List S45) (has : Bool) (ex : ByteArray) (B : Option Addr) (d : Nat) (b : ByteArray) (w : World) (h : Kd.C k43 w A l.length l) (hc : l.length ≤ c) (h' : Kd.C k45 w B o.length o) (hd : o.length ≤ d) :
    Calls Try.prog 7 #[.string s, .slice A l.length c, .agg #[.slice B o.length d, .bool has, .string ex], .string b] w fun e w' => e = .returned (.bool true) ∧ Below w.heap.size w w' := by
  obtain ⟨r, hr, hF⟩ := few_c s l (by have := h.2.1; omega)
  have HL := Lib.hid (fun (W : World) (hb : Below w.heap.size w W) => Kd.C_below h hb)
  have HA := Lib.hid (bel_alloc (Below.refl w.heap.size w) (.cells #[.slice B o.length d, .bool has, .string ex] 34))
  have HN := Lib.hid (blk_new w (.cells #[.slice B o.length d, .bool has, .string ex] 34))
  have HC := Lib.hid (awake_any (w.alloc (.cells #[.slice B o.length d, .bool has, .string ex] 34)))
  have HF := Lib.hid hF
  have HBF := Lib.hid (fun (hr1 : r = true) (he : ex.size ≤ 100000) => backFacts s l o has ex b A c B d w (hr hr1) he h hc h' hd)
  clear h h' hF hr
  go_enter Try.func7, Try.ntmps7
  go_wp2_with (fail)
  refine HC.out.mono ?_
  rintro e w1 ⟨rfl, hb1⟩
  have HB := Lib.hid (bel_trans HA.out hb1)
  have HN := Lib.hid (blk_later hb1 HN.out)
  clear hb1 HC HA
  go_wp2_with (fail)
  refine (HF.out A c _ (HL.out _ HB.out) hc).mono ?_
  rintro e w2 ⟨rfl, hb2⟩
  have HB := Lib.hid (bel_trans HB.out hb2)
  have HN := Lib.hid (blk_later hb2 HN.out)
  have q0 : w2.cell? ⟨w.heap.size, 0, none⟩ = some (.slice B o.length d) := (blk_cell HN.out 0).trans rfl
  have q1 : w2.cell? ⟨w.heap.size, 1, none⟩ = some (.bool has) := (blk_cell HN.out 1).trans rfl
  have q2 : w2.cell? ⟨w.heap.size, 2, none⟩ = some (.string ex) := (blk_cell HN.out 2).trans rfl
  clear hb2 HF HL
  by_cases hall : r = true ∧ b.size ≤ 100000 ∧ ex.size ≤ 100000 ∧ o.length ≤ 200
  · obtain ⟨rfl, hbs, hes, hos⟩ := hall
    have z1 : decide ((100000 : Int) < b.size) = false := decide_eq_false (by omega)
    have z2 : decide ((100000 : Int) < ex.size) = false := decide_eq_false (by omega)
    have z3 : decide ((200 : Int) < o.length) = false := decide_eq_false (by omega)
    have hBF := HBF.out rfl hes
    obtain ⟨k1, k2, k3, k4, k5, k6⟩ := hBF
    have e1 := keyF_err s l
    have e2 := packF_err o has ex
    have e3 := splitF_err b
    have e4 := unpackF_err b
    have k7 := key_back b hbs
    have k8 := pack_back b hbs
    have k9 := fun W => split_any b W
    have k10 := fun W => unpack_any b W
    clear hbs hes hos HBF
    generalize keyF s l = x at *
    generalize packF o has ex = y at *
    generalize splitF b = u at *
    generalize unpackF b = v at *
    obtain ⟨x1, x2⟩ := x
    obtain ⟨y1, y2⟩ := y
    obtain ⟨u1, u2, u3⟩ := u
    obtain ⟨v1, v2, v3, v4⟩ := v
    simp only at k1 k2 k4 k5 k7 k8 k9 k10 e1 e2 e3 e4
    have K1 := Lib.hid k1
    have K2 := Lib.hid k2
    have K3 := Lib.hid k3
    have K4 := Lib.hid k4
    have K5 := Lib.hid k5
    have K6 := Lib.hid k6
    have K7 := Lib.hid k7
    have K8 := Lib.hid k8
    have K9 := Lib.hid k9
    have K10 := Lib.hid k10
    have E1 := Lib.hid e1
    have E2 := Lib.hid e2
    have E3 := Lib.hid e3
    have E4 := Lib.hid e4
    clear k1 k2 k3 k4 k5 k6 k7 k8 k9 k10 e1 e2 e3 e4
    go_wp2_with (fail)
    refine (K1.out _ HB.out).mono ?_
    rintro e w3 ⟨rfl, hb3⟩
    have HB := Lib.hid (bel_trans HB.out hb3)
    have HN := Lib.hid (blk_later hb3 HN.out)
    clear hb3 K1 q0 q1 q2 z1 z2 z3
    rcases E1.out with rfl | rfl
    case' inl =>
      go_wp2_with (fail)
      refine (K2.out trivial _).mono ?_
      rintro e w4 ⟨A4, c4, rfl, hc4, hC4, hb4⟩
      have HB := Lib.hid (bel_trans HB.out hb4)
      have HN := Lib.hid (blk_later hb4 HN.out)
      have HX := Lib.hid (K3.out A4 c4 _ HB.out hC4 hc4)
      clear hc4 hC4 hb4 K2 K3
      go_wp2_with (fail)
      refine HX.out.mono ?_
      rintro e w5 ⟨rfl, hb5⟩
      have HB := Lib.hid (bel_trans HB.out hb5)
      have HN := Lib.hid (blk_later hb5 HN.out)
      have q0 : w5.cell? ⟨w.heap.size, 0, none⟩ = some (.slice B o.length d) := (blk_cell HN.out 0).trans rfl
      have q1 : w5.cell? ⟨w.heap.size, 1, none⟩ = some (.bool has) := (blk_cell HN.out 1).trans rfl
      have q2 : w5.cell? ⟨w.heap.size, 2, none⟩ = some (.string ex) := (blk_cell HN.out 2).trans rfl
      clear hb5 HX E1
      go_wp2_with (fail)
    case' inr =>
      have q0 : w3.cell? ⟨w.heap.size, 0, none⟩ = some (.slice B o.length d) := (blk_cell HN.out 0).trans rfl
      have q1 : w3.cell? ⟨w.heap.size, 1, none⟩ = some (.bool has) := (blk_cell HN.out 1).trans rfl
      have q2 : w3.cell? ⟨w.heap.size, 2, none⟩ = some (.string ex) := (blk_cell HN.out 2).trans rfl
      clear K2 K3 E1
      go_wp2_with (fail)
    all_goals
      refine (K4.out _ HB.out).mono ?_
      rintro e w6 ⟨rfl, hb6⟩
      have HB := Lib.hid (bel_trans HB.out hb6)
      have HN := Lib.hid (blk_later hb6 HN.out)
      clear hb6 K4 q0 q1 q2
      rcases E2.out with rfl | rfl
      case' inl =>
        go_wp2_with (fail)
        refine (K5.out trivial _).mono ?_
        rintro e w7 ⟨A7, c7, rfl, hc7, hC7, hb7⟩
        have HB := Lib.hid (bel_alloc (bel_trans HB.out hb7) (.cells #[.slice A7 o.length c7, .bool has, .string ex] 34))
        have hn := blk_later hb7 HN.out
        have hlt := blk_lt hn
        have q0 : w7.cell? ⟨w.heap.size, 0, none⟩ = some (.slice B o.length d) := (blk_cell hn 0).trans rfl
        have q1 : w7.cell? ⟨w.heap.size, 1, none⟩ = some (.bool has) := (blk_cell hn 1).trans rfl
        have q2 : w7.cell? ⟨w.heap.size, 2, none⟩ = some (.string ex) := (blk_cell hn 2).trans rfl
        have HX := Lib.hid (K6.out A7 c7 _ HB.out (Kd.C_below hC7 (bel_alloc (Below.refl _ _) _)) hc7)
        clear hc7 hC7 hb7 K5 K6 hn
        go_wp2_with (fail)
        refine HX.out.mono ?_
        rintro e w8 ⟨rfl, hb8⟩
        have HB := Lib.hid (bel_trans HB.out hb8)
        clear hb8 HX q0 q1 q2 hlt E2
        go_wp2_with (fail)
      case' inr =>
        clear K5 K6 E2
        go_wp2_with (fail)
      all_goals
        refine (K9.out _).mono ?_
        rintro e w9 ⟨A9, c9, rfl, hc9, hC9, hb9⟩
        have HB := Lib.hid (bel_trans HB.out hb9)
        have HX := Lib.hid (fun h => K7.out h A9 c9 _ hC9)
        clear hb9 K9 K7 hC9
        rcases E3.out with rfl | rfl
        case' inl =>
          go_wp2_with (fail)
          refine (HX.out trivial).mono ?_
          rintro e w10 ⟨rfl, hb10⟩
          have HB := Lib.hid (bel_trans HB.out hb10)
          clear hb10 HX E3
          go_wp2_with (fail)
        case' inr =>
          clear HX E3
          go_wp2_with (fail)
        all_goals
          refine (K10.out _).mono ?_
          rintro e w11 ⟨A11, c11, rfl, hc11, hC11, hb11⟩
          have HB := Lib.hid (bel_alloc (bel_trans HB.out hb11) (.cells #[.slice A11 v1.length c11, .bool v2, .string v3] 34))
          have HX := Lib.hid (fun h => K8.out h A11 c11 _ (Kd.C_below hC11 (bel_alloc (Below.refl _ _) (.cells #[.slice A11 v1.length c11, .bool v2, .string v3] 34))))
          clear hb11 K10 K8 hC11
          rcases E4.out with rfl | rfl
          case' inl =>
            go_wp2_with (fail)
            refine (HX.out trivial).mono ?_
            rintro e w12 ⟨rfl, hb12⟩
            have HB := Lib.hid (bel_trans HB.out hb12)
            clear hb12 HX E4
            go_wp2_with (fail)
          case' inr =>
            clear HX E4
            go_wp2_with (fail)
          all_goals
            go_ret
            exact ⟨rfl, HB.out⟩
  · have hcs : r = false ∨ (r = true ∧ decide ((100000 : Int) < b.size) = true) ∨ (r = true ∧ decide ((100000 : Int) < b.size) = false ∧ decide ((100000 : Int) < ex.size) = true) ∨ (r = true ∧ decide ((100000 : Int) < b.size) = false ∧ decide ((100000 : Int) < ex.size) = false ∧ decide ((200 : Int) < o.length) = true) := by
      cases r
      · exact .inl rfl
      · right
        have hall2 : ¬ (b.size ≤ 100000 ∧ ex.size ≤ 100000 ∧ o.length ≤ 200) := fun h => hall ⟨rfl, h⟩
        simp only [decide_eq_true_eq, decide_eq_false_iff_not, true_and]
        omega
    clear hall HBF
    rcases hcs with rfl | ⟨rfl, z1⟩ | ⟨rfl, z1, z2⟩ | ⟨rfl, z1, z2, z3⟩
    all_goals
      go_wp2_with (fail)
      go_ret
      exact ⟨rfl, HB.out⟩
end Go.Proofs.Ytnafeapbglflnaa
