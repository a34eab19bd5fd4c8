/- SetsMore: packages more, behind all others of a scope, change nothing that was found. -/
import Derived.Test.YtbhagjhhgmmcgaaTyLA
import Derived.Test.YtbhagjhhgmmcgaaTyHD
import Derived.Deep.RegionHeld3
namespace Go.Proofs.Ytbhagjhhgmmcgaa
open Go.RowKit PRef Go.Proofs.YtbhagjhhgmmcgaaW.PrintWords
set_option linter.unusedVariables false
set_option linter.unusedSimpArgs false

theorem findP_more {W M : List Ifc} {t : Ty} (h : (findP W t).isSome = true) : findP (W ++ M) t = findP W t := by
  unfold findP at *
  rw [List.find?_append]
  cases e : W.find? (fun p => decide (p.f0 = t.f1 ∧ t.f0 = 4)) with
  | none => rw [e] at h; cases h
  | some p => rfl
theorem findP_kind {W : List Ifc} {t : Ty} (h : (findP W t).isSome = true) : t.f0 = 4 := by
  apply Classical.byContradiction
  intro hn
  unfold findP at h
  rw [List.find?_eq_none.2 (by intro p _; simp [hn])] at h
  cases h
theorem assignP_more {W M : List Ifc} {B : List Ty} {t i : Ty} (ht : (findP W t).isSome = true) (hi : (findP W i).isSome = true) : assignP (W ++ M) B t i = assignP W B t i := by
  have k1 := findP_kind ht
  have k2 := findP_kind hi
  unfold assignP meetsP ifaceP methodsP
  simp only [if_neg (show ¬ t.f0 = 7 by omega), if_neg (show ¬ i.f0 = 7 by omega), if_neg (show ¬ t.f0 = 6 by omega), if_neg (show ¬ i.f0 = 6 by omega), findP_more ht, findP_more hi]
theorem infoIfc : (Try.prog.info? 74).map (fun i => (i.zero, i.size, i.bytes)) = some (some (.agg #[.string ⟨#[]⟩, .slice none 0 0, .slice none 0 0]), 3, 64) := by kernel_rfl
structure RowOf (W0 W : World) (A : Option Addr) (L : List Ifc) (css : List (List Value)) : Prop where
  len : css.length = L.length
  each : ∀ cs ∈ css, cs.length = 3
  k : ∀ (j : Nat) x, L[j]? = some x → ∃ cs, css[j]? = some cs ∧ kIfc.K W0 x cs
  one : ∀ u ∈ css.flatten, u.oneCell' = true
  nil : A = none → css = []
  cell : ∀ ad, A = some ad → ∀ (q : Nat) u, css.flatten[q]? = some u → W.cell? (ad.add q) = some u
theorem RowOf.of {W : World} {A : Option Addr} {L : List Ifc} (h : Kd.C kIfc W A L.length L) : ∃ css, RowOf W W A L css := by
  by_cases hn : 0 < L.length
  · obtain ⟨ad, rfl, _⟩ := h.2.2 hn
    obtain ⟨css, h1, h2, h3, h4, h5⟩ := C_cells (by decide) h hn
    refine ⟨css, h1, h2, h3, fun u hu => ?_, (fun e => by cases e), fun ad' e q u hq => by cases e; exact h5 q u hq⟩
    obtain ⟨cs, hcs, hu'⟩ := List.mem_flatten.1 hu
    obtain ⟨x, _, hK⟩ := h4 cs hcs
    exact kIfc.K_one hK u hu'
  · have hl0 : L = [] := List.eq_nil_of_length_eq_zero (by omega)
    subst hl0
    exact ⟨[], rfl, by simp, by simp, by simp, fun _ => rfl, by simp⟩
theorem RowOf.later {W0 W W1 : World} {A : Option Addr} {L : List Ifc} {css : List (List Value)} (h : RowOf W0 W A L css) (hb : Below W.heap.size W W1) : RowOf W0 W1 A L css := ⟨h.len, h.each, h.k, h.one, h.nil, fun ad e q u hq => cell_later hb (h.cell ad e q u hq)⟩
theorem append_ifcs {ops : Array Oper} {rest : List Oper} {o : Oper} {a : Act} {Q : Exit → Act → World → Prop} {w : World} (hgd : o.guard = none) (s x : Operand)
    (ho : o.op = .call { callee := .builtin .append, args := #[s, x], argTypes := #[22, 22] }) (base : Nat) (v : Value) (n : Nat) (xs : List Value) (hs : a.eval s = v) (hown : w.ownsRow base 74 3 v n xs)
    (A : Option Addr) (L : List Ifc) (c : Nat) (hx : a.eval x = .slice A L.length c) {W0 : World} (css : List (List Value)) (hR : RowOf W0 w A L css) (hb : (n + L.length) * 64 ≤ 140737488355328) (hbase : base ≤ w.heap.size)
    (h : ∀ v' w', w'.ownsRow base 74 3 v' (n + L.length) (xs ++ css.flatten) → w.grownBy w' v.ownBlock → wpList Try.prog ops Q rest (a.put o.dst v') w') : wpList Try.prog ops Q (o :: rest) a w := by
  obtain ⟨i, hi, hz0, hz1, hz2⟩ := info_parts infoIfc
  rcases A with _ | ad
  · have hc0 := hR.nil rfl
    subst hc0
    have hl0 : L = [] := List.eq_nil_of_length_eq_zero hR.len.symm
    subst hl0
    have hrun : (Builtin.append_ #[22, 22] o.type #[v, .slice none 0 c]).run Try.prog w = .ok v w := by
      rcases hown.2 with ⟨rfl, h0⟩ | ⟨g, cap, cur, rfl, _, _, hnc, _⟩
      · simp [Builtin.append_, run_underlying Try.underlying22, sizeOf, typeInfo, hi, Builtin.lenOf, Builtin.firstCells]
      · simp [Builtin.append_, run_underlying Try.underlying22, sizeOf, typeInfo, hi, Builtin.lenOf, Builtin.firstCells, hnc, storeCells]
    refine wpList_plain hgd fun K hK => ?_
    unfold Oper.wp execOp
    simp only [ho, resolve, invoke, builtin, Sem.run_bind, Sem.run_pure, Result.andThen_ok, List.map_toArray, List.map_cons, List.map_nil, hs, hx, List.length_nil, hrun]
    exact hK _ _ (h v w (by simpa using hown) (World.grownBy.refl w _))
  · refine wpList_append_own _ hgd s x 22 ho base 74 i _ 3 64 Try.underlying22 hi hz0 hz1 hz2 rfl (by decide) v n xs hs hown ad L.length c css.flatten hx ?_ (hR.cell ad rfl) hR.one ?_ hb hbase ?_
    · rw [flatten_length 3 css hR.each, hR.len]
    · unfold maxLen; omega
    · intro v' w' h1 h2 _
      exact h v' w' h1 h2
theorem C_own {w0 w1 W0 W : World} {base : Nat} {v : Value} {L M : List Ifc} {c1 c2 : List (List Value)} {A B : Option Addr} (h1 : RowOf W0 w0 A L c1) (h2 : RowOf W0 w1 B M c2) (hb : Below W0.heap.size W0 W) (hown : W.ownsRow base 74 3 v (L ++ M).length (c1 ++ c2).flatten) (hm : (L ++ M).length ≤ 9223372036854775807) :
    ∃ A' c', v = .slice A' (L ++ M).length c' ∧ (L ++ M).length ≤ c' ∧ Kd.C kIfc W A' (L ++ M).length (L ++ M) := by
  have hlen : (c1 ++ c2).length = (L ++ M).length := by rw [List.length_append, List.length_append, h1.len, h2.len]
  have heach : ∀ cs ∈ c1 ++ c2, cs.length = 3 := by
    intro cs hcs
    rcases List.mem_append.1 hcs with h | h
    · exact h1.each cs h
    · exact h2.each cs h
  have hK : ∀ (j : Nat) x, (L ++ M)[j]? = some x → ∃ cs, (c1 ++ c2)[j]? = some cs ∧ kIfc.K W0 x cs := by
    intro j x hj
    by_cases hjl : j < L.length
    · rw [List.getElem?_append_left hjl] at hj
      rw [List.getElem?_append_left (by rw [h1.len]; exact hjl)]
      exact h1.k j x hj
    · rw [List.getElem?_append_right (by omega)] at hj
      rw [List.getElem?_append_right (by rw [h1.len]; omega), h1.len]
      exact h2.k _ x hj
  rcases hown.2 with ⟨rfl, h0⟩ | ⟨g, cap, cur, rfl, _, hg, hnc, _, _, htake⟩
  · have hn0 : (L ++ M).length = 0 := h0
    have hl0 : L ++ M = [] := List.eq_nil_of_length_eq_zero hn0
    rw [hl0]
    exact ⟨none, 0, rfl, Nat.le_refl _, ⟨rfl, by simp, fun h => by simp at h⟩⟩
  · refine ⟨_, cap, rfl, hnc, rfl, hm, fun hn => ⟨_, rfl, fun j p hp => ?_⟩⟩
    obtain ⟨cs, hcs, hk⟩ := hK j p hp
    have hl3 := heach cs (List.mem_of_getElem? hcs)
    refine ⟨cs, hl3, kIfc.K_below hb hk, fun i u hu => ?_⟩
    have hi : i < 3 := by rw [← hl3]; exact (List.getElem?_eq_some_iff.1 hu).1
    have hq : (c1 ++ c2).flatten[j * 3 + i]? = some u := by
      rw [flatten_at 3 (by decide) _ heach, show (j * 3 + i) / 3 = j by omega, hcs, Option.bind_some, show (j * 3 + i) % 3 = i by omega]
      exact hu
    rw [Addr.add_lit, Nat.zero_add]
    show W.cell? ⟨g, j * 3 + i, none⟩ = some u
    rw [blk_cell hg, ← Array.getElem?_toList]
    rw [← htake, List.getElem?_take] at hq
    split at hq
    · exact hq
    · cases hq

set_option maxRecDepth 100000 in
set_option maxHeartbeats 8000000 in
theorem more_any (s : Scp) (a : ScA) (t : Ty) (A : Option Addr) (c : Nat) (u : Ty) (B : Option Addr) (d : Nat) (C : Option Addr) (M : List Ifc) (e : Nat) (w : World) (ok : WOk s.W ∧ (∀ t ∈ s.B, TyOk t) ∧ s.W.length * 64 ≤ 140737488351232) (hS : ScpC a s w) (ht : TyOk t) (hc : t.f4.length ≤ c) (hA : Kd.C kTy w A t.f4.length t.f4) (hu : TyOk u) (hd : u.f4.length ≤ d) (hB : Kd.C kTy w B u.f4.length u.f4) (he : M.length ≤ e) (hM64 : M.length * 64 ≤ 140737488351232) (okM : WOk M) (hC : Kd.C kIfc w C M.length M) :
    Calls Try.prog 8 #[scV a s.W s.B, tyV t A c, tyV u B d, .slice C M.length e] w fun e w' => e = .returned (.bool true) ∧ Below w.heap.size w w' := by
  have HB := Lib.hid (bel_alloc (bel_alloc (bel_alloc (Below.refl w.heap.size w) (.cells #[.slice a.AW s.W.length a.cW, .slice a.AI a.nI a.cI, .slice a.AN a.nN a.cN, .slice a.AB s.B.length a.cB, .slice a.AV a.nV a.cV] 27)) (.cells #[.int .i64 t.f0, .string t.f1, .string t.f2, .int .i64 t.f3, .slice A t.f4.length c] 29)) (.cells #[.int .i64 u.f0, .string u.f1, .string u.f2, .int .i64 u.f3, .slice B u.f4.length d] 29))
  have HS := Lib.hid (blk_alloc (blk_alloc (blk_new w (.cells #[.slice a.AW s.W.length a.cW, .slice a.AI a.nI a.cI, .slice a.AN a.nN a.cN, .slice a.AB s.B.length a.cB, .slice a.AV a.nV a.cV] 27)) (.cells #[.int .i64 t.f0, .string t.f1, .string t.f2, .int .i64 t.f3, .slice A t.f4.length c] 29)) (.cells #[.int .i64 u.f0, .string u.f1, .string u.f2, .int .i64 u.f3, .slice B u.f4.length d] 29))
  have HT := Lib.hid (blk_alloc ((show ((w.alloc (.cells #[.slice a.AW s.W.length a.cW, .slice a.AI a.nI a.cI, .slice a.AN a.nN a.cN, .slice a.AB s.B.length a.cB, .slice a.AV a.nV a.cV] 27)).alloc (.cells #[.int .i64 t.f0, .string t.f1, .string t.f2, .int .i64 t.f3, .slice A t.f4.length c] 29)).heap[w.heap.size + 1]? = some (.cells #[.int .i64 t.f0, .string t.f1, .string t.f2, .int .i64 t.f3, .slice A t.f4.length c] 29 (0, 0)) from blk_newN _ _ _ (by simp))) (.cells #[.int .i64 u.f0, .string u.f1, .string u.f2, .int .i64 u.f3, .slice B u.f4.length d] 29))
  have HU := Lib.hid ((show (((w.alloc (.cells #[.slice a.AW s.W.length a.cW, .slice a.AI a.nI a.cI, .slice a.AN a.nN a.cN, .slice a.AB s.B.length a.cB, .slice a.AV a.nV a.cV] 27)).alloc (.cells #[.int .i64 t.f0, .string t.f1, .string t.f2, .int .i64 t.f3, .slice A t.f4.length c] 29)).alloc (.cells #[.int .i64 u.f0, .string u.f1, .string u.f2, .int .i64 u.f3, .slice B u.f4.length d] 29)).heap[w.heap.size + 1 + 1]? = some (.cells #[.int .i64 u.f0, .string u.f1, .string u.f2, .int .i64 u.f3, .slice B u.f4.length d] 29 (0, 0)) from blk_newN _ _ _ (by simp)))
  have HSM := Lib.hid (fun (D : Option Addr) (c : Nat) (W : World) (hb : Below w.heap.size w W) (hC : Kd.C kTy W D [t, u].length [t, u]) (hl : [t, u].length ≤ c) => small_any a s [t, u] D c W (hS.c.later hb) hC hl)
  have HX := Lib.hid (And.intro hA (And.intro hc (And.intro hB hd)))
  have okW : WOk (s.W ++ M) := by
    intro p hp
    rcases List.mem_append.1 hp with h | h
    · exact ok.1 p h
    · exact okM p h
  obtain ⟨cw, hcw⟩ := RowOf.of hS.c.w_
  obtain ⟨cm, hcm⟩ := RowOf.of hC
  have HCW := Lib.hid hcw
  have HCM := Lib.hid hcm
  have HSB2 := Lib.hid hS.c
  have hwl : s.W.length ≤ 9223372036854775807 := hS.c.w_.2.1
  have hml : M.length ≤ 9223372036854775807 := hC.2.1
  have H64 := Lib.hid ok.2.2
  generalize hW0 : (((w.alloc (.cells #[.slice a.AW s.W.length a.cW, .slice a.AI a.nI a.cI, .slice a.AN a.nN a.cN, .slice a.AB s.B.length a.cB, .slice a.AV a.nV a.cV] 27)).alloc (.cells #[.int .i64 t.f0, .string t.f1, .string t.f2, .int .i64 t.f3, .slice A t.f4.length c] 29)).alloc (.cells #[.int .i64 u.f0, .string u.f1, .string u.f2, .int .i64 u.f3, .slice B u.f4.length d] 29)) = W0 at *
  have QF := Lib.hid (fun (W : World) (hb : Below W0.heap.size W0 W) => find_any a s.W s.B t A c W (hS.c.later (bel_trans HB.out hb)) ok.1)
  have QG := Lib.hid (fun (W : World) (hb : Below W0.heap.size W0 W) => find_any a s.W s.B u B d W (hS.c.later (bel_trans HB.out hb)) ok.1)
  have QA := Lib.hid (fun (W : World) (hb : Below W0.heap.size W0 W) => assign_any a s.W s.B t u A B c d W (hS.c.later (bel_trans HB.out hb)) ok.1 (Kd.C_below hA (bel_trans HB.out hb)) hc (Kd.C_below hB (bel_trans HB.out hb)) hd)
  have RF := Lib.hid (fun (W : World) (a' : ScA) (hs : ScC a' (s.W ++ M) s.B W) => find_any a' (s.W ++ M) s.B t A c W hs okW)
  have RA := Lib.hid (fun (W : World) (a' : ScA) (hs : ScC a' (s.W ++ M) s.B W) (hb : Below W0.heap.size W0 W) => assign_any a' (s.W ++ M) s.B t u A B c d W hs okW (Kd.C_below hA (bel_trans HB.out hb)) hc (Kd.C_below hB (bel_trans HB.out hb)) hd)
  have HF := Lib.hid (fun (h : (findP s.W t).isSome = true) => findP_more (M := M) h)
  have HAS := Lib.hid (fun (h : (findP s.W t).isSome = true) (h2 : (findP s.W u).isSome = true) => assignP_more (M := M) (B := s.B) h h2)
  generalize findP (s.W ++ M) t = fm at *
  generalize assignP (s.W ++ M) s.B t u = am at *
  generalize assignP s.W s.B t u = asg at *
  generalize findP s.W t = ft at *
  generalize findP s.W u = fu at *
  simp only [tyV, scV, dclV] at QF QG QA RF RA
  clear hS ok ht hu hc hd hA hB he hM64 okM hC okW hcw hcm
  simp only [tyV, scV]
  go_enter Try.func8, Try.ntmps8
  go_wp2_with (fail)
  clear hW0
  have HS0 := HS
  have HT0 := HT
  have HU0 := HU
  refine (awake_any _).mono ?_
  rintro e1 w1 ⟨rfl, hb⟩
  replace HS := Lib.hid (blk_later hb HS.out)
  replace HT := Lib.hid (blk_later hb HT.out)
  replace HU := Lib.hid (blk_later hb HU.out)
  have HBW := Lib.hid hb
  clear hb
  have s0 := (blk_cell HS.out 0).trans rfl
  have s1 := (blk_cell HS.out 1).trans rfl
  have s2 := (blk_cell HS.out 2).trans rfl
  have s3 := (blk_cell HS.out 3).trans rfl
  have s4 := (blk_cell HS.out 4).trans rfl
  have t0 := (blk_cell HT.out 0).trans rfl
  have t1 := (blk_cell HT.out 1).trans rfl
  have t2 := (blk_cell HT.out 2).trans rfl
  have t3 := (blk_cell HT.out 3).trans rfl
  have t4 := (blk_cell HT.out 4).trans rfl
  have u0 := (blk_cell HU.out 0).trans rfl
  have u1 := (blk_cell HU.out 1).trans rfl
  have u2 := (blk_cell HU.out 2).trans rfl
  have u3 := (blk_cell HU.out 3).trans rfl
  have u4 := (blk_cell HU.out 4).trans rfl
  go_wp2_with (fail)
  have HR := Lib.hid (blk_new w1 (.cells #[.int .i64 t.f0, .string t.f1, .string t.f2, .int .i64 t.f3, .slice A t.f4.length c, .int .i64 u.f0, .string u.f1, .string u.f2, .int .i64 u.f3, .slice B u.f4.length d] 29))
  have HB2 := Lib.hid (bel_alloc HBW.out (.cells #[.int .i64 t.f0, .string t.f1, .string t.f2, .int .i64 t.f3, .slice A t.f4.length c, .int .i64 u.f0, .string u.f1, .string u.f2, .int .i64 u.f3, .slice B u.f4.length d] 29))
  have HSM2 := Lib.hid (HSM.out (some ⟨w1.heap.size, 0, none⟩) 2 (w1.alloc (.cells #[.int .i64 t.f0, .string t.f1, .string t.f2, .int .i64 t.f3, .slice A t.f4.length c, .int .i64 u.f0, .string u.f1, .string u.f2, .int .i64 u.f3, .slice B u.f4.length d] 29)) (bel_trans HB.out HB2.out) (C_ty2 HR.out (Kd.C_below HX.out.1 (bel_trans HB.out HB2.out)) HX.out.2.1 (Kd.C_below HX.out.2.2.1 (bel_trans HB.out HB2.out)) HX.out.2.2.2) (Nat.le_refl 2))
  clear HSM
  have HSa := Lib.hid (blk_alloc HS.out (.cells #[.int .i64 t.f0, .string t.f1, .string t.f2, .int .i64 t.f3, .slice A t.f4.length c, .int .i64 u.f0, .string u.f1, .string u.f2, .int .i64 u.f3, .slice B u.f4.length d] 29))
  have HTa := Lib.hid (blk_alloc HT.out (.cells #[.int .i64 t.f0, .string t.f1, .string t.f2, .int .i64 t.f3, .slice A t.f4.length c, .int .i64 u.f0, .string u.f1, .string u.f2, .int .i64 u.f3, .slice B u.f4.length d] 29))
  have HUa := Lib.hid (blk_alloc HU.out (.cells #[.int .i64 t.f0, .string t.f1, .string t.f2, .int .i64 t.f3, .slice A t.f4.length c, .int .i64 u.f0, .string u.f1, .string u.f2, .int .i64 u.f3, .slice B u.f4.length d] 29))
  clear HS HT HU HR s0 s1 s2 s3 s4 t0 t1 t2 t3 t4 u0 u1 u2 u3 u4
  refine HSM2.out.mono ?_
  rintro e2 w2 ⟨r, rfl, hb⟩
  have HS := Lib.hid (blk_later hb HSa.out)
  have HT := Lib.hid (blk_later hb HTa.out)
  have HU := Lib.hid (blk_later hb HUa.out)
  replace HBW := Lib.hid (bel_trans HB2.out hb)
  clear hb HSM2 HSa HTa HUa HB2
  cases r with
  | false =>
    go_wp2_with (fail)
    go_ret
    exact ⟨rfl, bel_trans HB.out HBW.out⟩
  | true =>
    by_cases h10 : (10 : Int) < M.length
    · have d10 : decide ((10 : Int) < (M.length : Int)) = true := decide_eq_true h10
      clear h10
      go_wp2_with (fail)
      go_ret
      exact ⟨rfl, bel_trans HB.out HBW.out⟩
    have d10 : decide ((10 : Int) < (M.length : Int)) = false := decide_eq_false h10
    have HM10 := Lib.hid (show M.length ≤ 10 by omega)
    clear h10
    have s0 := (blk_cell HS.out 0).trans rfl
    have s1 := (blk_cell HS.out 1).trans rfl
    have s2 := (blk_cell HS.out 2).trans rfl
    have s3 := (blk_cell HS.out 3).trans rfl
    have s4 := (blk_cell HS.out 4).trans rfl
    have t0 := (blk_cell HT.out 0).trans rfl
    have t1 := (blk_cell HT.out 1).trans rfl
    have t2 := (blk_cell HT.out 2).trans rfl
    have t3 := (blk_cell HT.out 3).trans rfl
    have t4 := (blk_cell HT.out 4).trans rfl
    go_wp2_with (fail)
    clear d10
    refine (QF.out _ HBW.out).mono ?_
    rintro e3 w3 ⟨D1, p1, E1, q1, rfl, l1, k1, m1, n1, hb⟩
    replace HS := Lib.hid (blk_later hb HS.out)
    replace HT := Lib.hid (blk_later hb HT.out)
    replace HU := Lib.hid (blk_later hb HU.out)
    replace HBW := Lib.hid (bel_trans HBW.out hb)
    clear l1 k1 m1 n1
    clear hb s0 s1 s2 s3 s4 t0 t1 t2 t3 t4
    replace HS := Lib.hid (blk_alloc HS.out (.cells #[.string (ft.getD zDcl).f0, .bool (ft.getD zDcl).f1, .slice D1 (ft.getD zDcl).f2.length p1, .slice E1 (ft.getD zDcl).f3.length q1] 35))
    replace HT := Lib.hid (blk_alloc HT.out (.cells #[.string (ft.getD zDcl).f0, .bool (ft.getD zDcl).f1, .slice D1 (ft.getD zDcl).f2.length p1, .slice E1 (ft.getD zDcl).f3.length q1] 35))
    replace HU := Lib.hid (blk_alloc HU.out (.cells #[.string (ft.getD zDcl).f0, .bool (ft.getD zDcl).f1, .slice D1 (ft.getD zDcl).f2.length p1, .slice E1 (ft.getD zDcl).f3.length q1] 35))
    have HD := Lib.hid (blk_new w3 (.cells #[.string (ft.getD zDcl).f0, .bool (ft.getD zDcl).f1, .slice D1 (ft.getD zDcl).f2.length p1, .slice E1 (ft.getD zDcl).f3.length q1] 35))
    replace HBW := Lib.hid (bel_alloc HBW.out (.cells #[.string (ft.getD zDcl).f0, .bool (ft.getD zDcl).f1, .slice D1 (ft.getD zDcl).f2.length p1, .slice E1 (ft.getD zDcl).f3.length q1] 35))
    have s0 := (blk_cell HS.out 0).trans rfl
    have s1 := (blk_cell HS.out 1).trans rfl
    have s2 := (blk_cell HS.out 2).trans rfl
    have s3 := (blk_cell HS.out 3).trans rfl
    have s4 := (blk_cell HS.out 4).trans rfl
    have u0 := (blk_cell HU.out 0).trans rfl
    have u1 := (blk_cell HU.out 1).trans rfl
    have u2 := (blk_cell HU.out 2).trans rfl
    have u3 := (blk_cell HU.out 3).trans rfl
    have u4 := (blk_cell HU.out 4).trans rfl
    go_wp2_with (fail)
    generalize w3.alloc (.cells #[.string (ft.getD zDcl).f0, .bool (ft.getD zDcl).f1, .slice D1 (ft.getD zDcl).f2.length p1, .slice E1 (ft.getD zDcl).f3.length q1] 35) = WD at *
    generalize w3.heap.size = gD at *
    refine (QG.out _ HBW.out).mono ?_
    rintro e3 w3 ⟨D2, p2, E2, q2, rfl, l1, k1, m1, n1, hb⟩
    replace HS := Lib.hid (blk_later hb HS.out)
    replace HT := Lib.hid (blk_later hb HT.out)
    replace HU := Lib.hid (blk_later hb HU.out)
    replace HD := Lib.hid (blk_later hb HD.out)
    replace HBW := Lib.hid (bel_trans HBW.out hb)
    clear l1 k1 m1 n1 hb s0 s1 s2 s3 s4 u0 u1 u2 u3 u4
    replace HS := Lib.hid (blk_alloc HS.out (.cells #[.string (fu.getD zDcl).f0, .bool (fu.getD zDcl).f1, .slice D2 (fu.getD zDcl).f2.length p2, .slice E2 (fu.getD zDcl).f3.length q2] 35))
    replace HT := Lib.hid (blk_alloc HT.out (.cells #[.string (fu.getD zDcl).f0, .bool (fu.getD zDcl).f1, .slice D2 (fu.getD zDcl).f2.length p2, .slice E2 (fu.getD zDcl).f3.length q2] 35))
    replace HU := Lib.hid (blk_alloc HU.out (.cells #[.string (fu.getD zDcl).f0, .bool (fu.getD zDcl).f1, .slice D2 (fu.getD zDcl).f2.length p2, .slice E2 (fu.getD zDcl).f3.length q2] 35))
    replace HD := Lib.hid (blk_alloc HD.out (.cells #[.string (fu.getD zDcl).f0, .bool (fu.getD zDcl).f1, .slice D2 (fu.getD zDcl).f2.length p2, .slice E2 (fu.getD zDcl).f3.length q2] 35))
    have HE := Lib.hid (blk_new w3 (.cells #[.string (fu.getD zDcl).f0, .bool (fu.getD zDcl).f1, .slice D2 (fu.getD zDcl).f2.length p2, .slice E2 (fu.getD zDcl).f3.length q2] 35))
    replace HBW := Lib.hid (bel_alloc HBW.out (.cells #[.string (fu.getD zDcl).f0, .bool (fu.getD zDcl).f1, .slice D2 (fu.getD zDcl).f2.length p2, .slice E2 (fu.getD zDcl).f3.length q2] 35))
    cases hft : ft.isSome with
    | false =>
      go_wp2_with (fail)
      go_ret
      exact ⟨rfl, bel_trans HB.out HBW.out⟩
    | true =>
    cases hfu : fu.isSome with
    | false =>
      go_wp2_with (fail)
      go_ret
      exact ⟨rfl, bel_trans HB.out HBW.out⟩
    | true =>
    have hfm := HF.out hft
    have ham := HAS.out hft hfu
    subst hfm ham
    have HFT := Lib.hid hft
    have HFU := Lib.hid hfu
    have s0 := (blk_cell HS.out 0).trans rfl
    have s1 := (blk_cell HS.out 1).trans rfl
    have s2 := (blk_cell HS.out 2).trans rfl
    have s3 := (blk_cell HS.out 3).trans rfl
    have s4 := (blk_cell HS.out 4).trans rfl
    go_upto_region 10 with (fail)
    have HBY := HBW
    have HV := Lib.hid (blk_new (w3.alloc (.cells #[.string (fu.getD zDcl).f0, .bool (fu.getD zDcl).f1, .slice D2 (fu.getD zDcl).f2.length p2, .slice E2 (fu.getD zDcl).f3.length q2] 35)) (.cells #[.slice a.AW s.W.length a.cW, .slice a.AI a.nI a.cI, .slice a.AN a.nN a.cN, .slice a.AB s.B.length a.cB, .slice a.AV a.nV a.cV] 27))
    replace HS := Lib.hid (blk_alloc HS.out (.cells #[.slice a.AW s.W.length a.cW, .slice a.AI a.nI a.cI, .slice a.AN a.nN a.cN, .slice a.AB s.B.length a.cB, .slice a.AV a.nV a.cV] 27))
    replace HT := Lib.hid (blk_alloc HT.out (.cells #[.slice a.AW s.W.length a.cW, .slice a.AI a.nI a.cI, .slice a.AN a.nN a.cN, .slice a.AB s.B.length a.cB, .slice a.AV a.nV a.cV] 27))
    replace HU := Lib.hid (blk_alloc HU.out (.cells #[.slice a.AW s.W.length a.cW, .slice a.AI a.nI a.cI, .slice a.AN a.nN a.cN, .slice a.AB s.B.length a.cB, .slice a.AV a.nV a.cV] 27))
    replace HD := Lib.hid (blk_alloc HD.out (.cells #[.slice a.AW s.W.length a.cW, .slice a.AI a.nI a.cI, .slice a.AN a.nN a.cN, .slice a.AB s.B.length a.cB, .slice a.AV a.nV a.cV] 27))
    replace HE := Lib.hid (blk_alloc HE.out (.cells #[.slice a.AW s.W.length a.cW, .slice a.AI a.nI a.cI, .slice a.AN a.nN a.cN, .slice a.AB s.B.length a.cB, .slice a.AV a.nV a.cV] 27))
    replace HBW := Lib.hid (bel_alloc HBW.out (.cells #[.slice a.AW s.W.length a.cW, .slice a.AI a.nI a.cI, .slice a.AN a.nN a.cN, .slice a.AB s.B.length a.cB, .slice a.AV a.nV a.cV] 27))
    have HV0 := Lib.hid (show W0.heap.size ≤ (w3.alloc (.cells #[.string (fu.getD zDcl).f0, .bool (fu.getD zDcl).f1, .slice D2 (fu.getD zDcl).f2.length p2, .slice E2 (fu.getD zDcl).f3.length q2] 35)).heap.size from HBY.out.size)
    generalize (w3.alloc (.cells #[.string (fu.getD zDcl).f0, .bool (fu.getD zDcl).f1, .slice D2 (fu.getD zDcl).f2.length p2, .slice E2 (fu.getD zDcl).f3.length q2] 35)).alloc (.cells #[.slice a.AW s.W.length a.cW, .slice a.AI a.nI a.cI, .slice a.AN a.nN a.cN, .slice a.AB s.B.length a.cB, .slice a.AV a.nV a.cV] 27) = Wb at *
    generalize hgv : (w3.alloc (.cells #[.string (fu.getD zDcl).f0, .bool (fu.getD zDcl).f1, .slice D2 (fu.getD zDcl).f2.length p2, .slice E2 (fu.getD zDcl).f3.length q2] 35)).heap.size = gv at *
    have hgv2 : w3.heap.size + 1 = gv := by rw [← hgv]; simp
    rw [hgv2]
    clear hgv hgv2 s0 s1 s2 s3 s4
    have HWB := Lib.hid (bel_trans HB.out HBW.out)
    have HCW2 := Lib.hid (HCW.out.later (bel_alloc HWB.out (.cells #[] 74)))
    have s0 := (blk_cell (blk_alloc HS.out (.cells #[] 74)) 0).trans rfl
    have HGV := Lib.hid (blk_lt HV.out)
    go_upto_region 11 with (first
      | (at_builtin; refine append_ifcs (by rfl) (.tmp 55) (.tmp 57) (by rfl) Wb.heap.size _ 0 [] (by rfl) (World.ownsRow_lit Wb #[] 0 (Nat.le_refl _) (Nat.zero_le _) rfl) _ s.W _ (by rfl) cw HCW2.out (by have := H64.out; omega) (by simp) ?_; intro v1 wa hown1 hg1; have HBa : Hid (Below Wb.heap.size Wb wa) := Lib.hid (((Below.refl _ Wb).alloc (Nat.le_refl _) _).grown hg1 (by simp) (by intro k hk; simp [Value.ownBlock] at hk; omega)); have HO1 := Lib.hid hown1; clear hown1 hg1)
      | (at_builtin; refine append_ifcs (by rfl) (.tmp 58) (.tmp 59) (by rfl) Wb.heap.size _ _ _ (by rfl) HO1.out _ M _ (by rfl) cm (HCM.out.later (bel_trans HWB.out HBa.out)) (by have := H64.out; have := HM10.out; omega) HBa.out.size ?_; intro v2 wb hown2 hg2; have HBb : Hid (Below Wb.heap.size Wb wb) := Lib.hid (HBa.out.grown hg2 HBa.out.size (fun k hk => own_base HO1.out k hk)); have hown3 : wb.ownsRow Wb.heap.size 74 3 v2 (s.W.length + M.length) (cw ++ cm).flatten := (by simpa [List.flatten_append] using hown2); obtain ⟨A', c', hv2, hle⟩ := own_slice hown3; subst hv2; have HLE := Lib.hid hle; have HO2 := Lib.hid hown3; clear hown3 hle; have hvb := blk_later HBb.out HV.out; have v0 := (blk_cell hvb 0).trans rfl; have fv0 := blk_free hvb 0; clear hown2 hg2 hvb))
    have HBZ := Lib.hid (show Below W0.heap.size W0 (wb.setCell ⟨gv, 0, none⟩ (.slice A' (s.W.length + M.length) c')) from (bel_trans HBW.out HBb.out).setCell HV0.out _)
    have hfar : ∀ b, b ≠ gv → (wb.setCell ⟨gv, 0, none⟩ (.slice A' (s.W.length + M.length) c')).heap[b]? = wb.heap[b]? := fun b hb => blk_far _ _ _ _ _ hb
    have HVZ := Lib.hid (show (wb.setCell ⟨gv, 0, none⟩ (.slice A' (s.W.length + M.length) c')).heap[gv]? = some (.cells #[.slice A' (s.W.length + M.length) c', .slice a.AI a.nI a.cI, .slice a.AN a.nN a.cN, .slice a.AB s.B.length a.cB, .slice a.AV a.nV a.cV] 27 (0, 0)) from (blk_set (blk_later HBb.out HV.out) 0 (.slice A' (s.W.length + M.length) c')).trans rfl)
    have hne : ∀ (b : Nat) o, W0.heap[b]? = some o → b ≠ gv := fun b o h e => by have h1 := blk_lt h; have h2 := HV0.out; omega
    have HSZ := Lib.hid ((hfar _ (hne _ _ HS0.out)).trans (blk_later HBb.out HS.out))
    have HTZ := Lib.hid ((hfar _ (hne _ _ HT0.out)).trans (blk_later HBb.out HT.out))
    have HUZ := Lib.hid ((hfar _ (hne _ _ HU0.out)).trans (blk_later HBb.out HU.out))
    have hownZ : (wb.setCell ⟨gv, 0, none⟩ (.slice A' (s.W.length + M.length) c')).ownsRow Wb.heap.size 74 3 (.slice A' (s.W.length + M.length) c') (s.W.length + M.length) (cw ++ cm).flatten := own_kept HO2.out (fun g hg => hfar g (fun e => by have h1 := own_base HO2.out g hg; have h2 := HGV.out; omega))
    have hCZ := C_own HCW.out HCM.out (bel_trans HB.out HBZ.out) (by rw [List.length_append]; exact hownZ) (by rw [List.length_append]; have := H64.out; have := HM10.out; omega)
    obtain ⟨A2, c2, e2, hle2, hC2⟩ := hCZ
    injection e2 with e3 e4 e5
    subst e3 e5
    clear e4
    have hscz : ScC ⟨A', c', a.AI, a.nI, a.cI, a.AN, a.nN, a.cN, a.AB, a.cB, a.AV, a.nV, a.cV⟩ (s.W ++ M) s.B (wb.setCell ⟨gv, 0, none⟩ (.slice A' (s.W.length + M.length) c')) := ⟨hC2, hle2, (HSB2.out.later (bel_trans HB.out HBZ.out)).b_, (HSB2.out.later (bel_trans HB.out HBZ.out)).bc⟩
    have HSCZ := Lib.hid hscz
    clear hscz hC2 hle2 hownZ hfar hne v0 fv0 s0 HO1 HO2 HLE HCW HCM HCW2 HS HT HU HV HD HE
    have RF1 := fun (W : World) (hb : Below (wb.setCell ⟨gv, 0, none⟩ (.slice A' (s.W.length + M.length) c')).heap.size (wb.setCell ⟨gv, 0, none⟩ (.slice A' (s.W.length + M.length) c')) W) => RF.out W _ (HSCZ.out.later hb)
    have RA1 := fun (W : World) (hb : Below (wb.setCell ⟨gv, 0, none⟩ (.slice A' (s.W.length + M.length) c')).heap.size (wb.setCell ⟨gv, 0, none⟩ (.slice A' (s.W.length + M.length) c')) W) => (RA.out W _ (HSCZ.out.later hb) (bel_trans HBZ.out hb)).mono (fun e w' h => (⟨h.1, bel_trans hb h.2⟩ : e = .returned (.bool am) ∧ Below (wb.setCell ⟨gv, 0, none⟩ (.slice A' (s.W.length + M.length) c')).heap.size (wb.setCell ⟨gv, 0, none⟩ (.slice A' (s.W.length + M.length) c')) w'))
    have QA1 := fun (W : World) (hb : Below (wb.setCell ⟨gv, 0, none⟩ (.slice A' (s.W.length + M.length) c')).heap.size (wb.setCell ⟨gv, 0, none⟩ (.slice A' (s.W.length + M.length) c')) W) => (QA.out W (bel_trans HBZ.out hb)).mono (fun e w' h => (⟨h.1, bel_trans hb h.2⟩ : e = .returned (.bool am) ∧ Below (wb.setCell ⟨gv, 0, none⟩ (.slice A' (s.W.length + M.length) c')).heap.size (wb.setCell ⟨gv, 0, none⟩ (.slice A' (s.W.length + M.length) c')) w'))
    simp only [List.length_append] at RF1 RA1
    have RF2 := Lib.hid RF1
    have RA2 := Lib.hid RA1
    have QA2 := Lib.hid QA1
    clear RF RA RF1 RA1 QA QA1
    generalize wb.setCell ⟨gv, 0, none⟩ (.slice A' (s.W.length + M.length) c') = Wz at *
    clear HWB HBa HBb HGV H64 HM10 HSCZ HSB2 HV0 HBW
    have HBW := Lib.hid (Below.refl Wz.heap.size Wz)
    have HS := HSZ
    have HT := HTZ
    have HV := HVZ
    have s0 := (blk_cell HS.out 0).trans rfl
    have s1 := (blk_cell HS.out 1).trans rfl
    have s2 := (blk_cell HS.out 2).trans rfl
    have s3 := (blk_cell HS.out 3).trans rfl
    have s4 := (blk_cell HS.out 4).trans rfl
    have t0 := (blk_cell HT.out 0).trans rfl
    have t1 := (blk_cell HT.out 1).trans rfl
    have t2 := (blk_cell HT.out 2).trans rfl
    have t3 := (blk_cell HT.out 3).trans rfl
    have t4 := (blk_cell HT.out 4).trans rfl
    go_wp2_with (fail)
    refine (QF.out _ (bel_trans HBZ.out HBW.out)).mono ?_
    rintro e3 w3 ⟨D3, p3, E3, q3, rfl, l1, k1, m1, n1, hb⟩
    replace HS := Lib.hid (blk_later hb HS.out)
    replace HT := Lib.hid (blk_later hb HT.out)
    replace HV := Lib.hid (blk_later hb HV.out)
    replace HBW := Lib.hid (bel_trans HBW.out hb)
    have KD := Lib.hid (And.intro l1 (And.intro (Kd.F_now k1) (And.intro m1 (Kd.F_now n1))))
    clear l1 k1 m1 n1
    clear hb s0 s1 s2 s3 s4 t0 t1 t2 t3 t4
    replace HS := Lib.hid (blk_alloc HS.out (.cells #[.string (fm.getD zDcl).f0, .bool (fm.getD zDcl).f1, .slice D3 (fm.getD zDcl).f2.length p3, .slice E3 (fm.getD zDcl).f3.length q3] 35))
    replace HT := Lib.hid (blk_alloc HT.out (.cells #[.string (fm.getD zDcl).f0, .bool (fm.getD zDcl).f1, .slice D3 (fm.getD zDcl).f2.length p3, .slice E3 (fm.getD zDcl).f3.length q3] 35))
    replace HV := Lib.hid (blk_alloc HV.out (.cells #[.string (fm.getD zDcl).f0, .bool (fm.getD zDcl).f1, .slice D3 (fm.getD zDcl).f2.length p3, .slice E3 (fm.getD zDcl).f3.length q3] 35))
    have HP := Lib.hid (blk_new w3 (.cells #[.string (fm.getD zDcl).f0, .bool (fm.getD zDcl).f1, .slice D3 (fm.getD zDcl).f2.length p3, .slice E3 (fm.getD zDcl).f3.length q3] 35))
    replace HBW := Lib.hid (bel_alloc HBW.out (.cells #[.string (fm.getD zDcl).f0, .bool (fm.getD zDcl).f1, .slice D3 (fm.getD zDcl).f2.length p3, .slice E3 (fm.getD zDcl).f3.length q3] 35))
    replace KD := Lib.hid (And.intro KD.out.1 (And.intro (Kd.C_below KD.out.2.1 (bel_alloc (Below.refl _ _) (.cells #[.string (fm.getD zDcl).f0, .bool (fm.getD zDcl).f1, .slice D3 (fm.getD zDcl).f2.length p3, .slice E3 (fm.getD zDcl).f3.length q3] 35))) (And.intro KD.out.2.2.1 (Kd.C_below KD.out.2.2.2 (bel_alloc (Below.refl _ _) (.cells #[.string (fm.getD zDcl).f0, .bool (fm.getD zDcl).f1, .slice D3 (fm.getD zDcl).f2.length p3, .slice E3 (fm.getD zDcl).f3.length q3] 35))))))
    have s0 := (blk_cell HV.out 0).trans rfl
    have s1 := (blk_cell HV.out 1).trans rfl
    have s2 := (blk_cell HV.out 2).trans rfl
    have s3 := (blk_cell HV.out 3).trans rfl
    have s4 := (blk_cell HV.out 4).trans rfl
    have t0 := (blk_cell HT.out 0).trans rfl
    have t1 := (blk_cell HT.out 1).trans rfl
    have t2 := (blk_cell HT.out 2).trans rfl
    have t3 := (blk_cell HT.out 3).trans rfl
    have t4 := (blk_cell HT.out 4).trans rfl
    go_wp2_with (fail)
    generalize w3.alloc (.cells #[.string (fm.getD zDcl).f0, .bool (fm.getD zDcl).f1, .slice D3 (fm.getD zDcl).f2.length p3, .slice E3 (fm.getD zDcl).f3.length q3] 35) = WP at *
    generalize w3.heap.size = gP at *
    refine (RF2.out _ HBW.out).mono ?_
    rintro e3 w3 ⟨D4, p4, E4, q4, rfl, l1, k1, m1, n1, hb⟩
    replace HS := Lib.hid (blk_later hb HS.out)
    replace HT := Lib.hid (blk_later hb HT.out)
    replace HV := Lib.hid (blk_later hb HV.out)
    replace HP := Lib.hid (blk_later hb HP.out)
    replace HBW := Lib.hid (bel_trans HBW.out hb)
    replace KD := Lib.hid (And.intro KD.out.1 (And.intro (Kd.C_below KD.out.2.1 hb) (And.intro KD.out.2.2.1 (Kd.C_below KD.out.2.2.2 hb))))
    have KE := Lib.hid (And.intro l1 (And.intro (Kd.F_now k1) (And.intro m1 (Kd.F_now n1))))
    clear l1 k1 m1 n1
    clear hb s0 s1 s2 s3 s4 t0 t1 t2 t3 t4
    replace HS := Lib.hid (blk_alloc HS.out (.cells #[.string (fm.getD zDcl).f0, .bool (fm.getD zDcl).f1, .slice D4 (fm.getD zDcl).f2.length p4, .slice E4 (fm.getD zDcl).f3.length q4] 35))
    replace HT := Lib.hid (blk_alloc HT.out (.cells #[.string (fm.getD zDcl).f0, .bool (fm.getD zDcl).f1, .slice D4 (fm.getD zDcl).f2.length p4, .slice E4 (fm.getD zDcl).f3.length q4] 35))
    replace HV := Lib.hid (blk_alloc HV.out (.cells #[.string (fm.getD zDcl).f0, .bool (fm.getD zDcl).f1, .slice D4 (fm.getD zDcl).f2.length p4, .slice E4 (fm.getD zDcl).f3.length q4] 35))
    replace HP := Lib.hid (blk_alloc HP.out (.cells #[.string (fm.getD zDcl).f0, .bool (fm.getD zDcl).f1, .slice D4 (fm.getD zDcl).f2.length p4, .slice E4 (fm.getD zDcl).f3.length q4] 35))
    have HQ := Lib.hid (blk_new w3 (.cells #[.string (fm.getD zDcl).f0, .bool (fm.getD zDcl).f1, .slice D4 (fm.getD zDcl).f2.length p4, .slice E4 (fm.getD zDcl).f3.length q4] 35))
    replace HBW := Lib.hid (bel_alloc HBW.out (.cells #[.string (fm.getD zDcl).f0, .bool (fm.getD zDcl).f1, .slice D4 (fm.getD zDcl).f2.length p4, .slice E4 (fm.getD zDcl).f3.length q4] 35))
    replace KD := Lib.hid (And.intro KD.out.1 (And.intro (Kd.C_below KD.out.2.1 (bel_alloc (Below.refl _ _) (.cells #[.string (fm.getD zDcl).f0, .bool (fm.getD zDcl).f1, .slice D4 (fm.getD zDcl).f2.length p4, .slice E4 (fm.getD zDcl).f3.length q4] 35))) (And.intro KD.out.2.2.1 (Kd.C_below KD.out.2.2.2 (bel_alloc (Below.refl _ _) (.cells #[.string (fm.getD zDcl).f0, .bool (fm.getD zDcl).f1, .slice D4 (fm.getD zDcl).f2.length p4, .slice E4 (fm.getD zDcl).f3.length q4] 35))))))
    replace KE := Lib.hid (And.intro KE.out.1 (And.intro (Kd.C_below KE.out.2.1 (bel_alloc (Below.refl _ _) (.cells #[.string (fm.getD zDcl).f0, .bool (fm.getD zDcl).f1, .slice D4 (fm.getD zDcl).f2.length p4, .slice E4 (fm.getD zDcl).f3.length q4] 35))) (And.intro KE.out.2.2.1 (Kd.C_below KE.out.2.2.2 (bel_alloc (Below.refl _ _) (.cells #[.string (fm.getD zDcl).f0, .bool (fm.getD zDcl).f1, .slice D4 (fm.getD zDcl).f2.length p4, .slice E4 (fm.getD zDcl).f3.length q4] 35))))))
    have d0 := (blk_cell HP.out 0).trans rfl
    have d1 := (blk_cell HP.out 1).trans rfl
    have d2 := (blk_cell HP.out 2).trans rfl
    have d3 := (blk_cell HP.out 3).trans rfl
    have f0 := (blk_cell HQ.out 0).trans rfl
    have f1 := (blk_cell HQ.out 1).trans rfl
    have f2 := (blk_cell HQ.out 2).trans rfl
    have f3 := (blk_cell HQ.out 3).trans rfl
    go_wp2_with (fail)
    generalize w3.alloc (.cells #[.string (fm.getD zDcl).f0, .bool (fm.getD zDcl).f1, .slice D4 (fm.getD zDcl).f2.length p4, .slice E4 (fm.getD zDcl).f3.length q4] 35) = WQ at *
    generalize w3.heap.size = gQ at *
    have CS := Lib.hid (sametype_self (fm.getD zDcl) D3 E3 D4 E4 p3 q3 p4 q4 _ KD.out.2.1 KD.out.1 KD.out.2.2.2 KD.out.2.2.1 KE.out.2.1 KE.out.1 KE.out.2.2.2 KE.out.2.2.1)
    refine CS.out.mono ?_
    rintro e4 w4 ⟨rfl, hb⟩
    have hbw := bel_trans HBW.out hb
    have HSB := Lib.hid (fun (W : World) (hb : Below Wz.heap.size Wz W) => (show W.cell? ⟨w.heap.size, 0, none⟩ = some (.slice a.AW s.W.length a.cW) ∧ W.cell? ⟨w.heap.size, 1, none⟩ = some (.slice a.AI a.nI a.cI) ∧ W.cell? ⟨w.heap.size, 2, none⟩ = some (.slice a.AN a.nN a.cN) ∧ W.cell? ⟨w.heap.size, 3, none⟩ = some (.slice a.AB s.B.length a.cB) ∧ W.cell? ⟨w.heap.size, 4, none⟩ = some (.slice a.AV a.nV a.cV) ∧ W.cell? ⟨w.heap.size + 1, 0, none⟩ = some (.int .i64 t.f0) ∧ W.cell? ⟨w.heap.size + 1, 1, none⟩ = some (.string t.f1) ∧ W.cell? ⟨w.heap.size + 1, 2, none⟩ = some (.string t.f2) ∧ W.cell? ⟨w.heap.size + 1, 3, none⟩ = some (.int .i64 t.f3) ∧ W.cell? ⟨w.heap.size + 1, 4, none⟩ = some (.slice A t.f4.length c) ∧ W.cell? ⟨w.heap.size + 1 + 1, 0, none⟩ = some (.int .i64 u.f0) ∧ W.cell? ⟨w.heap.size + 1 + 1, 1, none⟩ = some (.string u.f1) ∧ W.cell? ⟨w.heap.size + 1 + 1, 2, none⟩ = some (.string u.f2) ∧ W.cell? ⟨w.heap.size + 1 + 1, 3, none⟩ = some (.int .i64 u.f3) ∧ W.cell? ⟨w.heap.size + 1 + 1, 4, none⟩ = some (.slice B u.f4.length d) ∧ W.cell? ⟨gv, 0, none⟩ = some (.slice A' (s.W.length + M.length) c') ∧ W.cell? ⟨gv, 1, none⟩ = some (.slice a.AI a.nI a.cI) ∧ W.cell? ⟨gv, 2, none⟩ = some (.slice a.AN a.nN a.cN) ∧ W.cell? ⟨gv, 3, none⟩ = some (.slice a.AB s.B.length a.cB) ∧ W.cell? ⟨gv, 4, none⟩ = some (.slice a.AV a.nV a.cV) from ⟨(blk_cell (blk_later hb HSZ.out) 0).trans rfl, (blk_cell (blk_later hb HSZ.out) 1).trans rfl, (blk_cell (blk_later hb HSZ.out) 2).trans rfl, (blk_cell (blk_later hb HSZ.out) 3).trans rfl, (blk_cell (blk_later hb HSZ.out) 4).trans rfl, (blk_cell (blk_later hb HTZ.out) 0).trans rfl, (blk_cell (blk_later hb HTZ.out) 1).trans rfl, (blk_cell (blk_later hb HTZ.out) 2).trans rfl, (blk_cell (blk_later hb HTZ.out) 3).trans rfl, (blk_cell (blk_later hb HTZ.out) 4).trans rfl, (blk_cell (blk_later hb HUZ.out) 0).trans rfl, (blk_cell (blk_later hb HUZ.out) 1).trans rfl, (blk_cell (blk_later hb HUZ.out) 2).trans rfl, (blk_cell (blk_later hb HUZ.out) 3).trans rfl, (blk_cell (blk_later hb HUZ.out) 4).trans rfl, (blk_cell (blk_later hb HVZ.out) 0).trans rfl, (blk_cell (blk_later hb HVZ.out) 1).trans rfl, (blk_cell (blk_later hb HVZ.out) 2).trans rfl, (blk_cell (blk_later hb HVZ.out) 3).trans rfl, (blk_cell (blk_later hb HVZ.out) 4).trans rfl⟩))
    clear hb CS KD KE HS HT HV HP HQ HBW QF QG RF2 d0 d1 d2 d3 f0 f1 f2 f3
    go_wp2_with (fail)
    go_region_held3 (fun W : World => W.cell? ⟨w.heap.size, 0, none⟩ = some (.slice a.AW s.W.length a.cW) ∧ W.cell? ⟨w.heap.size, 1, none⟩ = some (.slice a.AI a.nI a.cI) ∧ W.cell? ⟨w.heap.size, 2, none⟩ = some (.slice a.AN a.nN a.cN) ∧ W.cell? ⟨w.heap.size, 3, none⟩ = some (.slice a.AB s.B.length a.cB) ∧ W.cell? ⟨w.heap.size, 4, none⟩ = some (.slice a.AV a.nV a.cV) ∧ W.cell? ⟨w.heap.size + 1, 0, none⟩ = some (.int .i64 t.f0) ∧ W.cell? ⟨w.heap.size + 1, 1, none⟩ = some (.string t.f1) ∧ W.cell? ⟨w.heap.size + 1, 2, none⟩ = some (.string t.f2) ∧ W.cell? ⟨w.heap.size + 1, 3, none⟩ = some (.int .i64 t.f3) ∧ W.cell? ⟨w.heap.size + 1, 4, none⟩ = some (.slice A t.f4.length c) ∧ W.cell? ⟨w.heap.size + 1 + 1, 0, none⟩ = some (.int .i64 u.f0) ∧ W.cell? ⟨w.heap.size + 1 + 1, 1, none⟩ = some (.string u.f1) ∧ W.cell? ⟨w.heap.size + 1 + 1, 2, none⟩ = some (.string u.f2) ∧ W.cell? ⟨w.heap.size + 1 + 1, 3, none⟩ = some (.int .i64 u.f3) ∧ W.cell? ⟨w.heap.size + 1 + 1, 4, none⟩ = some (.slice B u.f4.length d) ∧ W.cell? ⟨gv, 0, none⟩ = some (.slice A' (s.W.length + M.length) c') ∧ W.cell? ⟨gv, 1, none⟩ = some (.slice a.AI a.nI a.cI) ∧ W.cell? ⟨gv, 2, none⟩ = some (.slice a.AN a.nN a.cN) ∧ W.cell? ⟨gv, 3, none⟩ = some (.slice a.AB s.B.length a.cB) ∧ W.cell? ⟨gv, 4, none⟩ = some (.slice a.AV a.nV a.cV)) ((refine HSB.out _ ?_; repeat (first | assumption | refine bel_drew ?_ | refine bel_drewN ?_ _))) (first | (go_at_call 31; (with_reducible refine (QA2.out _ (by repeat (first | assumption | refine bel_drew ?_ | refine bel_drewN ?_ _))).mono ?_); rintro e w6 ⟨rfl, hb6⟩) | (go_at_call 31; (with_reducible refine (RA2.out _ (by repeat (first | assumption | refine bel_drew ?_ | refine bel_drewN ?_ _))).mono ?_); rintro e w7 ⟨rfl, hb7⟩))
    all_goals
      go_wp2_with (fail)
      go_ret
      exact ⟨by simp, bel_trans HB.out (bel_trans HBZ.out (by repeat (first | assumption | refine bel_drew ?_ | refine bel_drewN ?_ _)))⟩
end Go.Proofs.Ytbhagjhhgmmcgaa
