/- SetsSides: which type is named first does not matter to whether two are alike. -/
import Derived.Test.YtbhagjhhgmmcgaaTyP
import Derived.Test.YtbhagjhhgmmcgaaTyT
namespace Go.Proofs.Ytbhagjhhgmmcgaa
open Go.RowKit PRef Go.Proofs.YtbhagjhhgmmcgaaW.PrintWords
set_option linter.unusedVariables false

theorem same_c {a : Ty} (ha : TyOk a) (b : Ty) (A B : Option Addr) (c d : Nat) (w : World) (hA : Kd.C kTy w A a.f4.length a.f4) (hc : a.f4.length ≤ c) (hB : Kd.C kTy w B b.f4.length b.f4) (hd : b.f4.length ≤ d) :
    Calls Try.prog 35 #[.agg #[.int .i64 a.f0, .string a.f1, .string a.f2, .int .i64 a.f3, .slice A a.f4.length c], .agg #[.int .i64 b.f0, .string b.f1, .string b.f2, .int .i64 b.f3, .slice B b.f4.length d]] w fun e w' => e = .returned (.bool (sameT a b)) ∧ Below w.heap.size w w' := by
  obtain ⟨k, hk⟩ := (same_ev ha b).rounds
  exact quoinref09_Same.calls k _ _ _ _ A c _ _ _ _ _ B d _ _ w hA hc hB hd hk
theorem ref_alike_c {a : Ty} (ha : TyOk a) (b : Ty) (A B : Option Addr) (c d : Nat) (w : World) (hA : Kd.C kTy w A a.f4.length a.f4) (hc : a.f4.length ≤ c) (hB : Kd.C kTy w B b.f4.length b.f4) (hd : b.f4.length ≤ d) :
    Calls Try.prog 28 #[.agg #[.int .i64 a.f0, .string a.f1, .string a.f2, .int .i64 a.f3, .slice A a.f4.length c], .agg #[.int .i64 b.f0, .string b.f1, .string b.f2, .int .i64 b.f3, .slice B b.f4.length d]] w fun e w' => e = .returned (.bool (alikeT a b)) ∧ Below w.heap.size w w' := by
  obtain ⟨k, hk⟩ := (alike_ev ha b).rounds
  exact quoinref11_Alike.calls k _ _ _ _ A c _ _ _ _ _ B d _ _ w hA hc hB hd hk

set_option maxRecDepth 100000 in
set_option maxHeartbeats 4000000 in
theorem sides_any (t : Ty) (A : Option Addr) (c : Nat) (u : Ty) (B : Option Addr) (d : Nat) (w : World) (ht : TyOk t) (hc : t.f4.length ≤ c) (hA : Kd.C kTy w A t.f4.length t.f4) (hu : TyOk u) (hd : u.f4.length ≤ d) (hB : Kd.C kTy w B u.f4.length u.f4) :
    Calls Try.prog 7 #[tyV t A c, tyV u B d] w fun e w' => e = .returned (.bool true) ∧ Below w.heap.size w w' := by
  have hsym := alikeT_comm u t
  have hself := alikeT_self t
  have himp := alikeT_same t u
  obtain ⟨r1, hr1⟩ := parts_c ht
  obtain ⟨r2, hr2⟩ := parts_c hu
  have HP1 := Lib.hid (fun (W : World) (hb : Below w.heap.size w W) => hr1 A c W (Kd.C_below hA hb) hc)
  have HP2 := Lib.hid (fun (W : World) (hb : Below w.heap.size w W) => hr2 B d W (Kd.C_below hB hb) hd)
  have HA1 := Lib.hid (fun (W : World) (hb : Below w.heap.size w W) => alike_any (tyAll t) u A B c d W (Kd.C_below hA hb) hc (Kd.C_below hB hb) hd)
  have HA2 := Lib.hid (fun (W : World) (hb : Below w.heap.size w W) => alike_any (tyAll u) t B A d c W (Kd.C_below hB hb) hd (Kd.C_below hA hb) hc)
  have HA3 := Lib.hid (fun (W : World) (hb : Below w.heap.size w W) => alike_any (tyAll t) t A A c c W (Kd.C_below hA hb) hc (Kd.C_below hA hb) hc)
  have HS := Lib.hid (fun (W : World) (hb : Below w.heap.size w W) => same_c ht u A B c d W (Kd.C_below hA hb) hc (Kd.C_below hB hb) hd)
  rw [hsym] at HA2
  rw [hself] at HA3
  generalize alikeT t u = al at *
  generalize sameT t u = sa at *
  have HB := Lib.hid (bel_alloc (bel_alloc (Below.refl w.heap.size w) (.cells #[.int .i64 t.f0, .string t.f1, .string t.f2, .int .i64 t.f3, .slice A t.f4.length c] 29)) (.cells #[.int .i64 u.f0, .string u.f1, .string u.f2, .int .i64 u.f3, .slice B u.f4.length d] 29))
  have HT := Lib.hid (blk_alloc (blk_new w (.cells #[.int .i64 t.f0, .string t.f1, .string t.f2, .int .i64 t.f3, .slice A t.f4.length c] 29)) (.cells #[.int .i64 u.f0, .string u.f1, .string u.f2, .int .i64 u.f3, .slice B u.f4.length d] 29))
  have HU := Lib.hid ((show ((w.alloc (.cells #[.int .i64 t.f0, .string t.f1, .string t.f2, .int .i64 t.f3, .slice A t.f4.length c] 29)).alloc (.cells #[.int .i64 u.f0, .string u.f1, .string u.f2, .int .i64 u.f3, .slice B u.f4.length d] 29)).heap[w.heap.size + 1]? = some (.cells #[.int .i64 u.f0, .string u.f1, .string u.f2, .int .i64 u.f3, .slice B u.f4.length d] 29 (0, 0)) from blk_newN _ _ _ (by simp)))
  clear hA hB ht hu hr1 hr2 hc hd hsym hself
  simp only [tyV] at *
  by_cases h1 : 60 < r1
  · have d1 : decide (60 < r1) = true := decide_eq_true h1
    clear h1
    go_enter Try.func7, Try.ntmps7
    go_wp2_with (fail)
    refine (awake_any _).mono ?_
    rintro e w1 ⟨rfl, hb⟩
    replace HT := Lib.hid (blk_later hb HT.out)
    replace HU := Lib.hid (blk_later hb HU.out)
    replace HB := Lib.hid (bel_trans HB.out hb)
    clear hb
    have t0 := (blk_cell HT.out 0).trans rfl
    have t1 := (blk_cell HT.out 1).trans rfl
    have t2 := (blk_cell HT.out 2).trans rfl
    have t3 := (blk_cell HT.out 3).trans rfl
    have t4 := (blk_cell HT.out 4).trans rfl
    go_wp2_with (fail)
    refine (HP1.out _ HB.out).mono ?_
    rintro e w1 ⟨rfl, hb⟩
    replace HT := Lib.hid (blk_later hb HT.out)
    replace HU := Lib.hid (blk_later hb HU.out)
    replace HB := Lib.hid (bel_trans HB.out hb)
    clear hb
    clear t0 t1 t2 t3 t4
    go_wp2_with (fail)
    go_ret
    exact ⟨rfl, HB.out⟩
  · have d1 : decide (60 < r1) = false := decide_eq_false h1
    clear h1
    by_cases h2 : 60 < r2
    · have d2 : decide (60 < r2) = true := decide_eq_true h2
      clear h2
      go_enter Try.func7, Try.ntmps7
      go_wp2_with (fail)
      refine (awake_any _).mono ?_
      rintro e w1 ⟨rfl, hb⟩
      replace HT := Lib.hid (blk_later hb HT.out)
      replace HU := Lib.hid (blk_later hb HU.out)
      replace HB := Lib.hid (bel_trans HB.out hb)
      clear hb
      have t0 := (blk_cell HT.out 0).trans rfl
      have t1 := (blk_cell HT.out 1).trans rfl
      have t2 := (blk_cell HT.out 2).trans rfl
      have t3 := (blk_cell HT.out 3).trans rfl
      have t4 := (blk_cell HT.out 4).trans rfl
      go_wp2_with (fail)
      refine (HP1.out _ HB.out).mono ?_
      rintro e w1 ⟨rfl, hb⟩
      replace HT := Lib.hid (blk_later hb HT.out)
      replace HU := Lib.hid (blk_later hb HU.out)
      replace HB := Lib.hid (bel_trans HB.out hb)
      clear hb
      clear t0 t1 t2 t3 t4
      have u0 := (blk_cell HU.out 0).trans rfl
      have u1 := (blk_cell HU.out 1).trans rfl
      have u2 := (blk_cell HU.out 2).trans rfl
      have u3 := (blk_cell HU.out 3).trans rfl
      have u4 := (blk_cell HU.out 4).trans rfl
      go_wp2_with (fail)
      refine (HP2.out _ HB.out).mono ?_
      rintro e w1 ⟨rfl, hb⟩
      replace HT := Lib.hid (blk_later hb HT.out)
      replace HU := Lib.hid (blk_later hb HU.out)
      replace HB := Lib.hid (bel_trans HB.out hb)
      clear hb
      clear u0 u1 u2 u3 u4
      go_wp2_with (fail)
      go_ret
      exact ⟨rfl, HB.out⟩
    · have d2 : decide (60 < r2) = false := decide_eq_false h2
      clear h2
      go_enter Try.func7, Try.ntmps7
      go_wp2_with (fail)
      refine (awake_any _).mono ?_
      rintro e w1 ⟨rfl, hb⟩
      replace HT := Lib.hid (blk_later hb HT.out)
      replace HU := Lib.hid (blk_later hb HU.out)
      replace HB := Lib.hid (bel_trans HB.out hb)
      clear hb
      have t0 := (blk_cell HT.out 0).trans rfl
      have t1 := (blk_cell HT.out 1).trans rfl
      have t2 := (blk_cell HT.out 2).trans rfl
      have t3 := (blk_cell HT.out 3).trans rfl
      have t4 := (blk_cell HT.out 4).trans rfl
      go_wp2_with (fail)
      refine (HP1.out _ HB.out).mono ?_
      rintro e w1 ⟨rfl, hb⟩
      replace HT := Lib.hid (blk_later hb HT.out)
      replace HU := Lib.hid (blk_later hb HU.out)
      replace HB := Lib.hid (bel_trans HB.out hb)
      clear hb
      clear t0 t1 t2 t3 t4
      have u0 := (blk_cell HU.out 0).trans rfl
      have u1 := (blk_cell HU.out 1).trans rfl
      have u2 := (blk_cell HU.out 2).trans rfl
      have u3 := (blk_cell HU.out 3).trans rfl
      have u4 := (blk_cell HU.out 4).trans rfl
      go_wp2_with (fail)
      refine (HP2.out _ HB.out).mono ?_
      rintro e w1 ⟨rfl, hb⟩
      replace HT := Lib.hid (blk_later hb HT.out)
      replace HU := Lib.hid (blk_later hb HU.out)
      replace HB := Lib.hid (bel_trans HB.out hb)
      clear hb
      clear u0 u1 u2 u3 u4
      have t0 := (blk_cell HT.out 0).trans rfl
      have t1 := (blk_cell HT.out 1).trans rfl
      have t2 := (blk_cell HT.out 2).trans rfl
      have t3 := (blk_cell HT.out 3).trans rfl
      have t4 := (blk_cell HT.out 4).trans rfl
      have u0 := (blk_cell HU.out 0).trans rfl
      have u1 := (blk_cell HU.out 1).trans rfl
      have u2 := (blk_cell HU.out 2).trans rfl
      have u3 := (blk_cell HU.out 3).trans rfl
      have u4 := (blk_cell HU.out 4).trans rfl
      go_wp2_with (fail)
      refine (HA1.out _ HB.out).mono ?_
      rintro e w1 ⟨rfl, hb⟩
      replace HT := Lib.hid (blk_later hb HT.out)
      replace HU := Lib.hid (blk_later hb HU.out)
      replace HB := Lib.hid (bel_trans HB.out hb)
      clear hb
      clear t0 t1 t2 t3 t4 u0 u1 u2 u3 u4
      have t0 := (blk_cell HT.out 0).trans rfl
      have t1 := (blk_cell HT.out 1).trans rfl
      have t2 := (blk_cell HT.out 2).trans rfl
      have t3 := (blk_cell HT.out 3).trans rfl
      have t4 := (blk_cell HT.out 4).trans rfl
      have u0 := (blk_cell HU.out 0).trans rfl
      have u1 := (blk_cell HU.out 1).trans rfl
      have u2 := (blk_cell HU.out 2).trans rfl
      have u3 := (blk_cell HU.out 3).trans rfl
      have u4 := (blk_cell HU.out 4).trans rfl
      go_wp2_with (fail)
      refine (HA2.out _ HB.out).mono ?_
      rintro e w1 ⟨rfl, hb⟩
      replace HT := Lib.hid (blk_later hb HT.out)
      replace HU := Lib.hid (blk_later hb HU.out)
      replace HB := Lib.hid (bel_trans HB.out hb)
      clear hb
      clear t0 t1 t2 t3 t4 u0 u1 u2 u3 u4
      have t0 := (blk_cell HT.out 0).trans rfl
      have t1 := (blk_cell HT.out 1).trans rfl
      have t2 := (blk_cell HT.out 2).trans rfl
      have t3 := (blk_cell HT.out 3).trans rfl
      have t4 := (blk_cell HT.out 4).trans rfl
      have u0 := (blk_cell HU.out 0).trans rfl
      have u1 := (blk_cell HU.out 1).trans rfl
      have u2 := (blk_cell HU.out 2).trans rfl
      have u3 := (blk_cell HU.out 3).trans rfl
      have u4 := (blk_cell HU.out 4).trans rfl
      go_wp2_with (fail)
      refine (HA3.out _ HB.out).mono ?_
      rintro e w1 ⟨rfl, hb⟩
      replace HT := Lib.hid (blk_later hb HT.out)
      replace HU := Lib.hid (blk_later hb HU.out)
      replace HB := Lib.hid (bel_trans HB.out hb)
      clear hb
      clear t0 t1 t2 t3 t4 u0 u1 u2 u3 u4
      have t0 := (blk_cell HT.out 0).trans rfl
      have t1 := (blk_cell HT.out 1).trans rfl
      have t2 := (blk_cell HT.out 2).trans rfl
      have t3 := (blk_cell HT.out 3).trans rfl
      have t4 := (blk_cell HT.out 4).trans rfl
      have u0 := (blk_cell HU.out 0).trans rfl
      have u1 := (blk_cell HU.out 1).trans rfl
      have u2 := (blk_cell HU.out 2).trans rfl
      have u3 := (blk_cell HU.out 3).trans rfl
      have u4 := (blk_cell HU.out 4).trans rfl
      go_wp2_with (fail)
      refine (HS.out _ HB.out).mono ?_
      rintro e w1 ⟨rfl, hb⟩
      replace HT := Lib.hid (blk_later hb HT.out)
      replace HU := Lib.hid (blk_later hb HU.out)
      replace HB := Lib.hid (bel_trans HB.out hb)
      clear hb
      clear t0 t1 t2 t3 t4 u0 u1 u2 u3 u4
      cases al <;> cases sa
      · go_wp2_with (fail)
        go_ret
        exact ⟨rfl, HB.out⟩
      · exact absurd (himp rfl) (by decide)
      · go_wp2_with (fail)
        go_ret
        exact ⟨rfl, HB.out⟩
      · go_wp2_with (fail)
        go_ret
        exact ⟨rfl, HB.out⟩
end Go.Proofs.Ytbhagjhhgmmcgaa
