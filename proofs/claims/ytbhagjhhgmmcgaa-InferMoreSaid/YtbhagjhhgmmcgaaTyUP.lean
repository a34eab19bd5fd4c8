/- What bounds a law's inputs (infer): little, of scopes. Arguments that are types whose numbers are numbers, and functions' heads, opened. InferNames and InferUnifies: what the two walks share, and that they return true. -/
import Derived.Test.YtbhagjhhgmmcgaaTyUK
import Derived.Test.YtbhagjhhgmmcgaaTyUI
import Derived.Test.YtbhagjhhgmmcgaaTyUN
import Derived.Test.YtbhagjhhgmmcgaaTyHD
namespace Go.Proofs.Ytbhagjhhgmmcgaa
open Go.RowKit PRef Go.Proofs.YtbhagjhhgmmcgaaW.PrintWords
set_option linter.unusedVariables false
set_option linter.unusedSimpArgs false

set_option maxRecDepth 100000 in
set_option maxHeartbeats 8000000 in
theorem little_any (a : ScA) (s : Scp) (w : World) (hS : ScC a s.W s.B w) :
    Calls Try.prog 41 #[.agg #[.slice a.AW s.W.length a.cW, .slice a.AI a.nI a.cI, .slice a.AN a.nN a.cN, .slice a.AB s.B.length a.cB, .slice a.AV a.nV a.cV]] w fun e w' => ∃ r : Bool, e = .returned (.bool r) ∧ Below w.heap.size w w' := by
  have hwm : s.W.length ≤ 9223372036854775807 := hS.w_.2.1
  have HB := Lib.hid (bel_alloc (Below.refl w.heap.size w) (.cells #[.slice a.AW s.W.length a.cW, .slice a.AI a.nI a.cI, .slice a.AN a.nN a.cN, .slice a.AB s.B.length a.cB, .slice a.AV a.nV a.cV] 27))
  have HS := Lib.hid (blk_new w (.cells #[.slice a.AW s.W.length a.cW, .slice a.AI a.nI a.cI, .slice a.AN a.nN a.cN, .slice a.AB s.B.length a.cB, .slice a.AV a.nV a.cV] 27))
  have HW := Lib.hid hS.w_
  have h20 : (decide (20 < (s.W.length : Int)) = true ∨ decide (20 < (s.W.length : Int)) = false) := by cases decide (20 < (s.W.length : Int)) <;> simp
  have h21 : (decide (20 < (s.B.length : Int)) = true ∨ decide (20 < (s.B.length : Int)) = false) := by cases decide (20 < (s.B.length : Int)) <;> simp
  have H20 := Lib.hid h20
  have H21 := Lib.hid h21
  clear hS h20 h21
  rcases H20.out with d20 | d20
  · go_enter Try.func41, Try.ntmps41
    go_wp2_with (fail)
    go_ret
    exact ⟨_, rfl, HB.out⟩
  rcases H21.out with d21 | d21
  · go_enter Try.func41, Try.ntmps41
    go_wp2_with (fail)
    go_ret
    exact ⟨_, rfl, HB.out⟩
  go_enter Try.func41, Try.ntmps41
  go_wp2_with (fail)
  clear d20 d21 H20 H21
  go_loopw [3] (fun vi wr => ∃ i : Nat, vi = .int .i64 i ∧ Hid (i ≤ s.W.length) ∧ Hid (wr.heap[w.heap.size]? = some (.cells #[.slice a.AW s.W.length a.cW, .slice a.AI a.nI a.cI, .slice a.AN a.nN a.cN, .slice a.AB s.B.length a.cB, .slice a.AV a.nV a.cV] 27 (0, 0))) ∧ Hid (Below w.heap.size w wr)) (fun vi _ => s.W.length - (intOf vi).toNat)
  case atStart => exact ⟨0, rfl, Lib.hid (Nat.zero_le _), HS, HB⟩
  case round =>
    clear HS HB
    obtain ⟨i, rfl, HK1, HS, HB⟩ := hrel
    have s0 := (blk_cell HS.out 0).trans rfl
    by_cases hlt : i < s.W.length
    · obtain ⟨x, hx⟩ : ∃ x, s.W[i]? = some x := ⟨_, List.getElem?_eq_getElem hlt⟩
      obtain ⟨aw, W1, e1, W2, e2, hAw, x0, x1, x2, lx, gx, _, _⟩ := at_T74 HW.out (i : Int) (by omega) (by omega)
      rw [show rd_T74 s.W (i : Int) = x from by unfold rd_T74; rw [Int.toNat_natCast, List.getD_eq_getElem?_getD, hx]; rfl] at x0 x1 x2 lx gx
      rw [Int.toNat_natCast] at x0 x1 x2
      have hxm : x.f1.length ≤ 9223372036854775807 := gx.2.1
      have HXC := Lib.hid gx
      have HX1 := Lib.hid x1
      have HAW := Lib.hid hAw
      have i0 : 0 ≤ (i : Int) := by omega
      have i1 : (i : Int) < s.W.length := by omega
      have HLT1 := Lib.hid hlt
      have x1' := cell_later HB.out x1
      rw [hAw] at s0
      clear hx gx hAw x0 x1 x2
      have h30 : (decide (30 < (x.f1.length : Int)) = true ∨ decide (30 < (x.f1.length : Int)) = false) := by cases decide (30 < (x.f1.length : Int)) <;> simp
      rcases h30 with d30 | d30
      · go_wp2_with (fail)
        go_ret
        exact ⟨_, rfl, HB.out⟩
      go_wp2_with (fail)
      clear d30
      have HSo := HS
      have HBo := HB
      clear s0 x1' HS HB
      go_loopw [4] (fun vi wr => ∃ k : Nat, vi = .int .i64 k ∧ Hid (k ≤ x.f1.length) ∧ Hid (wr.heap[w.heap.size]? = some (.cells #[.slice a.AW s.W.length a.cW, .slice a.AI a.nI a.cI, .slice a.AN a.nN a.cN, .slice a.AB s.B.length a.cB, .slice a.AV a.nV a.cV] 27 (0, 0))) ∧ Hid (Below w.heap.size w wr)) (fun vi _ => x.f1.length - (intOf vi).toNat)
      case atStart => exact ⟨0, rfl, Lib.hid (Nat.zero_le _), HSo, HBo⟩
      case round =>
        clear HSo HBo
        obtain ⟨k, rfl, HK2, HS, HB⟩ := hrel
        have s0 := (blk_cell HS.out 0).trans rfl
        rw [HAW.out] at s0
        have x1' := cell_later HB.out HX1.out
        by_cases hlt2 : k < x.f1.length
        · obtain ⟨y, hy⟩ : ∃ y, x.f1[k]? = some y := ⟨_, List.getElem?_eq_getElem hlt2⟩
          obtain ⟨ay, A2, c2, A3, c3, hAy, y0, y1, y2, y3, _, gy2, ly3, gy3⟩ := at_T35 HXC.out (k : Int) (by omega) (by omega)
          rw [show rd_T35 x.f1 (k : Int) = y from by unfold rd_T35; rw [Int.toNat_natCast, List.getD_eq_getElem?_getD, hy]; rfl] at y0 y1 y2 y3 gy2 ly3 gy3
          rw [Int.toNat_natCast] at y0 y1 y2 y3
          have hym : y.f3.length ≤ 9223372036854775807 := gy3.2.1
          have HYC := Lib.hid gy3
          rw [hAy] at x1'
          have HAY := Lib.hid hAy
          have j0 : 0 ≤ (k : Int) := by omega
          have j1 : (k : Int) < x.f1.length := by omega
          have HLT2 := Lib.hid hlt2
          replace y0 := cell_later HB.out y0
          replace y1 := cell_later HB.out y1
          replace y2 := cell_later HB.out y2
          replace y3 := cell_later HB.out y3
          clear hy gy2 gy3 ly3 hAy
          have h31 : (decide (20 < (y.f3.length : Int)) = true ∨ decide (20 < (y.f3.length : Int)) = false) := by cases decide (20 < (y.f3.length : Int)) <;> simp
          rcases h31 with d31 | d31
          · go_wp2_with (fail)
            go_ret
            exact ⟨_, rfl, HB.out⟩
          go_wp2_with (fail)
          clear d31
          have HSo := HS
          have HBo := HB
          clear s0 x1' HS HB y0 y1 y2 y3
          go_loopw [6] (fun vi wr => ∃ n : Nat, vi = .int .i64 n ∧ Hid (n ≤ y.f3.length) ∧ Hid (wr.heap[w.heap.size]? = some (.cells #[.slice a.AW s.W.length a.cW, .slice a.AI a.nI a.cI, .slice a.AN a.nN a.cN, .slice a.AB s.B.length a.cB, .slice a.AV a.nV a.cV] 27 (0, 0))) ∧ Hid (Below w.heap.size w wr)) (fun vi _ => y.f3.length - (intOf vi).toNat)
          case atStart => exact ⟨0, rfl, Lib.hid (Nat.zero_le _), HSo, HBo⟩
          case round =>
            clear HSo HBo
            obtain ⟨n, rfl, HK3, HS, HB⟩ := hrel
            by_cases hlt3 : n < y.f3.length
            · obtain ⟨z, hz⟩ : ∃ z, y.f3[n]? = some z := ⟨_, List.getElem?_eq_getElem hlt3⟩
              obtain ⟨az, B1, g1, B6, g6, hAz, z0, z1, z2, z3, z4, z5, z6, lz1, gz1, lz6, gz6⟩ := at_T50 HYC.out (n : Int) (by omega) (by omega)
              rw [show rd_T50 y.f3 (n : Int) = z from by unfold rd_T50; rw [Int.toNat_natCast, List.getD_eq_getElem?_getD, hz]; rfl] at z0 z1 z2 z3 z4 z5 z6 lz1 gz1 lz6 gz6
              rw [Int.toNat_natCast] at z0 z1 z2 z3 z4 z5 z6
              subst hAz
              have HPR := Lib.hid (fun (W : World) (hb : Below w.heap.size w W) => parts12_any (tyAll z.f2) B6 g6 0 W (by omega) (by omega) (Kd.C_below gz6 hb) lz6)
              generalize partsT z.f2 0 = r6 at *
              have HSP := Lib.hid (small12_any z.f1 B1 g1 wr (Kd.C_below gz1 HB.out) lz1)
              have HZ := Lib.hid (fun (W : World) (hb : Below w.heap.size w W) => And.intro (cell_later hb z2) (And.intro (cell_later hb z3) (And.intro (cell_later hb z4) (And.intro (cell_later hb z5) (cell_later hb z6)))))
              have k0 : 0 ≤ (n : Int) := by omega
              have k1 : (n : Int) < y.f3.length := by omega
              have HLT3 := Lib.hid hlt3
              replace z1 := cell_later HB.out z1
              clear hz gz1 gz6 lz6 lz1 z0 z2 z3 z4 z5 z6
              go_wp2_with (fail)
              refine HSP.out.mono ?_
              rintro e w6 ⟨r, rfl, _, hb⟩
              have hB6 := bel_trans HB.out hb
              have HB6 := Lib.hid hB6
              have HS6 := Lib.hid (blk_later hb HS.out)
              obtain ⟨z2, z3, z4, z5, z6⟩ := HZ.out w6 hB6
              clear hb hB6 HSP
              cases r with
              | false =>
                go_wp2_with (fail)
                go_ret
                exact ⟨_, rfl, HB6.out⟩
              | true =>
                have h61 : (decide (60 < r6) = true ∨ decide (60 < r6) = false) := by cases decide (60 < r6) <;> simp
                have HP6 := Lib.hid (HPR.out w6 HB6.out)
                rcases h61 with d61 | d61
                all_goals
                  go_wp2_with (go_at_call 42; refine HP6.out.mono ?_; rintro e w7 ⟨rfl, hb⟩; have HB7 := Lib.hid (bel_trans HB6.out hb); have HS7 := Lib.hid (blk_later hb HS6.out); clear hb)
                · go_ret
                  exact ⟨_, rfl, HB7.out⟩
                · go_roundw
                  case rel => exact ⟨n + 1, by go_num, Lib.hid HLT3.out, HS7, HB7⟩
                  case measure => have := HLT3.out; simp [intOf]; omega
            · obtain rfl : n = y.f3.length := by have := HK3.out; omega
              go_wp2_with (fail)
              go_roundw
              case rel => exact ⟨k + 1, by go_num, Lib.hid HLT2.out, HS, HB⟩
              case measure => have := HLT2.out; simp [intOf]; omega
        · obtain rfl : k = x.f1.length := by have := HK2.out; omega
          go_wp2_with (fail)
          go_roundw
          case rel => exact ⟨i + 1, by go_num, Lib.hid HLT1.out, HS, HB⟩
          case measure => have := HLT1.out; simp [intOf]; omega
    · obtain rfl : i = s.W.length := by have := HK1.out; omega
      go_wp2_with (fail)
      go_ret
      exact ⟨_, rfl, HB.out⟩
end Go.Proofs.Ytbhagjhhgmmcgaa
namespace Go.Proofs.Ytbhagjhhgmmcgaa
open Go.RowKit PRef Go.Proofs.YtbhagjhhgmmcgaaW.PrintWords Go.WideShapes Go.Deep Go.ChangeShapes Go.Joins
set_option linter.unusedVariables false
set_option linter.unusedSimpArgs false

theorem opens_tyW : ∀ n : Nat, Opens Try.prog kTy TyW 29 n := by
  intro n
  induction n using Nat.strongRecOn with
  | ind n ih =>
    have hF : ∀ m, m < n → OpensF Try.prog (Kd.pair (Kd.int .i64) (Kd.pair Kd.string (Kd.pair Kd.string (Kd.pair (Kd.int .i64) (Kd.slice 29 kTy))))) (fun p => (Lit.int .i64 p.1).wf = true ∧ p.2.1.size ≤ 140737488351232 ∧ p.2.2.1.size ≤ 140737488351232 ∧ (Lit.int .i64 p.2.2.2.1).wf = true ∧ ((∀ x ∈ p.2.2.2.2, TyW x) ∧ p.2.2.2.2.length * Try.prog.bytesOf 29 ≤ 140737488351232)) [3, 9, 9, 3, 24] m := fun m hm =>
      fields_cons (by kernel_rfl) (opens_int m Try.underlying3) (fields_cons (by kernel_rfl) (opens_string m Try.underlying9) (fields_cons (by kernel_rfl) (opens_string m Try.underlying9) (fields_cons (by kernel_rfl) (opens_int m Try.underlying3) (fields_one (by kernel_rfl) (opens_slice Try.underlying24 (by kernel_rfl) (fun q hq => ih q (Nat.lt_trans hq hm)))))))
    intro H ec w base held cs x hx hw
    obtain ⟨⟨a0, a1, a2, a3, a4⟩, ⟨_, _, rfl, rfl, ⟨_, _, rfl, rfl, ⟨_, _, rfl, rfl, ⟨_, _, rfl, rfl, ⟨A4, c4, rfl, l4, g4⟩⟩⟩⟩⟩, _, _, _, h4, h5, h6⟩ := opens_struct0 (fs := _) (n := n) Try.underlying29 rfl (by kernel_rfl) (by kernel_rfl) hF H ec w base held cs x hx hw
    rw [show Try.prog.bytesOf 29 = 72 by kernel_rfl] at h6
    exact ⟨⟨a0, a1, a2, a3, a4⟩, k29_mk w ⟨a0, a1, a2, a3, a4⟩ l4 g4, .mk _ (by dsimp only at h6 ⊢; omega) h4 h5⟩
def FunW (m : Fun) : Prop := m.f1.length * 72 ≤ 140737488355328 ∧ (∀ p ∈ m.f1, TyW p) ∧ m.f2.length * 72 ≤ 140737488355328 ∧ (∀ p ∈ m.f2, TyW p) ∧ TyW m.f3
theorem opens_funW (n : Nat) : Opens Try.prog kFun FunW 58 n :=
  (opens_struct (β := Fun) (fun x : Fun => (x.f0, x.f1, x.f2, x.f3)) (fun p => ⟨p.1, p.2.1, p.2.2.1, p.2.2.2⟩) (fun _ => rfl) Try.underlying58 rfl (by kernel_rfl) (by kernel_rfl)
    (fun m _ => fields_cons (by kernel_rfl) (opens_string m Try.underlying9) (fields_cons (by kernel_rfl) (opens_slice Try.underlying24 (by kernel_rfl) (fun q _ => opens_tyW q)) (fields_cons (by kernel_rfl) (opens_slice Try.underlying24 (by kernel_rfl) (fun q _ => opens_tyW q)) (fields_one (by kernel_rfl) (opens_tyW m)))))).mono fun f h => by
      obtain ⟨_, ⟨h1, h2⟩, ⟨h3, h4⟩, h5⟩ := h
      rw [show Try.prog.bytesOf 29 = 72 by kernel_rfl] at h2 h4
      exact ⟨by dsimp only at h2 ⊢; omega, h1, by dsimp only at h4 ⊢; omega, h3, h5⟩
set_option maxRecDepth 100000 in
theorem open_tyW {H : Type} {ec : TypeId × Value → H} {w : World} {base : Nat} {held : Bool} {r : Reach} {b0 : Nat} {v : Value} {D : DataW H} {p : List MemPlace}
    (hw : ∀ n ∈ D.weights Try.prog 29, n ≤ reachBytes) (hv : Value.okWide Try.prog w r b0 29 v) (hd : DataW.Trod ec Try.prog w base (fun _ => true) held 29 v D p) : ∃ (t : Ty) (A : Option Addr) (c : Nat), v = tyV t A c ∧ TyW t ∧ t.f4.length ≤ c ∧ Kd.C kTy w A t.f4.length t.f4 := by
  obtain ⟨a, cs, rfl, hK, ok⟩ := open_struct_arg Try.underlying29 opens_tyW hw hv hd
  obtain ⟨A, c, h1, h2, h3⟩ := k29_open hK
  exact ⟨a, A, c, by unfold tyV; rw [← h1], ok, h2, h3⟩
set_option maxRecDepth 100000 in
theorem open_tysW {H : Type} {ec : TypeId × Value → H} {w : World} {base : Nat} {held : Bool} {r : Reach} {b0 : Nat} {v : Value} {D : DataW H} {p : List MemPlace}
    (hw : ∀ n ∈ D.weights Try.prog 24, n ≤ reachBytes) (hv : Value.okWide Try.prog w r b0 24 v) (hd : DataW.Trod ec Try.prog w base (fun _ => true) held 24 v D p) : ∃ (A : Option Addr) (l : List Ty) (c : Nat), v = .slice A l.length c ∧ l.length ≤ c ∧ l.length * 72 ≤ 140737488351232 ∧ (∀ x ∈ l, TyW x) ∧ Kd.C kTy w A l.length l := by
  obtain ⟨A, l, c, h1, h2, h3, h4, h5⟩ := open_slice_arg Try.underlying24 (by kernel_rfl) opens_tyW hw hv hd
  rw [show Try.prog.bytesOf 29 = 72 by kernel_rfl] at h3
  exact ⟨A, l, c, h1, h2, h3, h4, h5⟩
set_option maxRecDepth 100000 in
theorem open_funW {H : Type} {ec : TypeId × Value → H} {w : World} {base : Nat} {held : Bool} {r : Reach} {b0 : Nat} {v : Value} {D : DataW H} {p : List MemPlace}
    (hw : ∀ n ∈ D.weights Try.prog 58, n ≤ reachBytes) (hv : Value.okWide Try.prog w r b0 58 v) (hd : DataW.Trod ec Try.prog w base (fun _ => true) held 58 v D p) : ∃ (f : Fun) (b : FnA), v = .agg (fnCs b f) ∧ FunW f ∧ FnC b f w := by
  obtain ⟨f, cs, rfl, hK, ok⟩ := open_struct_arg Try.underlying58 opens_funW hw hv hd
  obtain ⟨A1, c1, A2, c2, A7, c7, h1, h2, h3, h4, h5, h6, h7⟩ := k58_open hK
  exact ⟨f, ⟨A1, c1, A2, c2, A7, c7⟩, by unfold fnCs; rw [← h1], ok, ⟨h3, h2, h5, h4, h7, h6⟩⟩
/-- No types to put in: a type stays. -/
theorem substT_nil {t : Ty} (h : TyAll t) : substT [] t = t := by
  induction h with
  | mk t hs ih =>
    obtain ⟨a, b, c, d, l⟩ := t
    rw [substT, if_neg (by simp), substL_map]
    congr 1
    exact (List.map_congr_left (g := id) (fun x hx => ih x hx)).trans (List.map_id l)
theorem unifyN_zero (ps qs : List Ty) : unifyN ps qs 0 = [] := by unfold unifyN; rw [if_neg (by omega)]
end Go.Proofs.Ytbhagjhhgmmcgaa
namespace Go.Proofs.Ytbhagjhhgmmcgaa
open Go.RowKit PRef Go.Proofs.YtbhagjhhgmmcgaaW.PrintWords
set_option linter.unusedVariables false
set_option linter.unusedSimpArgs false

theorem inferNames_any (w : World) : Calls Try.prog 9 #[] w fun e w' => e = .returned (.bool true) ∧ Below w.heap.size w w' := by
  go_enter Try.func9, Try.ntmps9
  go_wp2_with (fail)
  refine (awake12_any _).mono ?_
  rintro e w1 ⟨rfl, hb1⟩
  go_wp2_with (fail)
  go_ret
  exact ⟨rfl, hb1⟩

set_option maxRecDepth 100000 in
set_option maxHeartbeats 8000000 in
theorem inferUnifies_any (A : Option Addr) (l : List Ty) (c : Nat) (B : Option Addr) (m : List Ty) (d : Nat) (n : Int) (w : World) (hc : l.length ≤ c) (hl72 : l.length * 72 ≤ 140737488351232) (hl : ∀ x ∈ l, TyW x) (hA : Kd.C kTy w A l.length l) (hd : m.length ≤ d) (hm72 : m.length * 72 ≤ 140737488351232) (hm : ∀ x ∈ m, TyW x) (hB : Kd.C kTy w B m.length m) (hn : (Lit.int .i64 n).wf = true) :
    Calls Try.prog 10 #[.slice A l.length c, .slice B m.length d, .int .i64 n] w fun e w' => e = .returned (.bool true) ∧ Below w.heap.size w w' := by
  have HSA := Lib.hid (fun (W : World) (hb : Below w.heap.size w W) => small12_any l A c W (Kd.C_below hA hb) hc)
  have HSB := Lib.hid (fun (W : World) (hb : Below w.heap.size w W) => small12_any m B d W (Kd.C_below hB hb) hd)
  have HU := Lib.hid (fun (W : World) (hb : Below w.heap.size w W) (hs : SmallL l) => unify_any l m n A B c d w W hl hm (grow_small l hs.1 hs.2) hA hc hB hd hb)
  have HR := Lib.hid (fun (W : World) (hb : Below w.heap.size w W) => ref_unify_any l m n A B c d w W hA hc hB hd hb)
  clear hl hm hA hB hc hd hl72 hm72
  go_enter Try.func10, Try.ntmps10
  go_wp2_with (fail)
  refine (awake12_any _).mono ?_
  rintro e w1 ⟨rfl, hb1⟩
  go_wp2_with (fail)
  refine (HSA.out _ hb1).mono ?_
  rintro e w2 ⟨r, rfl, hr, hb2⟩
  have HB2 := bel_trans hb1 hb2
  clear hb1 hb2 HSA
  go_wp2_with (fail)
  refine (HSB.out _ HB2).mono ?_
  rintro e w3 ⟨q, rfl, hq, hb3⟩
  have HB3 := bel_trans HB2 hb3
  clear HB2 hb3 HSB hq
  cases r with
  | false =>
    go_wp2_with (fail)
    go_ret
    exact ⟨rfl, HB3⟩
  | true =>
    cases q with
    | false =>
      go_wp2_with (fail)
      go_ret
      exact ⟨rfl, HB3⟩
    | true =>
      have HSM := Lib.hid (hr rfl)
      clear hr
      go_wp2_with (fail)
      refine (HU.out _ HB3 HSM.out).mono ?_
      rintro e w4 ⟨A', c', rfl, hc', hF4, hb4⟩
      have HB4 := bel_trans HB3 hb4
      have HF4 := Lib.hid (And.intro hc' (Kd.F_now hF4))
      clear hb4 HB3 hc' hF4
      go_wp2_with (fail)
      refine (HR.out _ HB4).mono ?_
      rintro e w5 ⟨B', d', rfl, hd', hF5, hb5⟩
      have HB5 := bel_trans HB4 hb5
      have HC := Lib.hid (types_self (unifyN l m n) A' B' c' d' w5 (Kd.C_below HF4.out.2 hb5) HF4.out.1 (Kd.F_now hF5) hd')
      clear hb5 HB4 hd' hF5
      go_wp2_with (fail)
      refine HC.out.mono ?_
      rintro e w6 ⟨rfl, hb6⟩
      have HB6 := bel_trans HB5 hb6
      clear hb6 HB5
      go_wp2_with (fail)
      go_ret
      exact ⟨rfl, HB6⟩
end Go.Proofs.Ytbhagjhhgmmcgaa
