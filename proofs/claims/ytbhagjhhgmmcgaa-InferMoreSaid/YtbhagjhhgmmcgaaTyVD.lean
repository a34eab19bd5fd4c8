/- InferMore: an argument more, of no parameter's, is wrong with the call alone. -/
import Derived.Test.YtbhagjhhgmmcgaaTyVA
import Derived.Deep.RegionHeld3
namespace Go.Proofs.Ytbhagjhhgmmcgaa
open Go.RowKit PRef Go.Proofs.YtbhagjhhgmmcgaaW.PrintWords
set_option linter.unusedVariables false
set_option linter.unusedSimpArgs false

theorem tellL_more (told : Told) (ps qs : List Ty) (x : Ty) (h : qs.length = ps.length) : tellL told ps (qs ++ [x]) = tellL told ps qs := by
  rw [← tellL_min told ps (qs ++ [x]), ← tellL_min told ps qs]
  have h1 : min ps.length (qs ++ [x]).length = ps.length := by rw [List.length_append, List.length_singleton]; omega
  have h2 : min ps.length qs.length = ps.length := by omega
  rw [h1, h2, List.take_append_of_le_length (by omega)]
theorem unifyN_more (ps qs : List Ty) (x : Ty) (n : Int) (h : qs.length = ps.length) : unifyN ps (qs ++ [x]) n = unifyN ps qs n := by
  unfold unifyN unifyL
  simp only [tellL_more _ _ _ x h]
theorem callP_more (W : List Ifc) (B ts ps qs : List Ty) (x : Ty) : ∀ k : Nat, k ≤ qs.length → callP W B ts ps (qs ++ [x]) k = callP W B ts ps qs k
  | 0, _ => rfl
  | k + 1, hk => by
    rw [callP_succ, callP_succ, callP_more W B ts ps qs x k (by omega)]
    have e : (qs ++ [x]).getD k zTy = qs.getD k zTy := by rw [List.getD_eq_getElem?_getD, List.getD_eq_getElem?_getD, List.getElem?_append_left (by omega)]
    rw [e]
theorem callT_more (f : Fun) (args : List Ty) (x : Ty) (h : args.length = f.f2.length) : callT f (args ++ [x]) = callT f args := by
  unfold callT; rw [unifyN_more _ _ _ _ h]
theorem callL_more (W : List Ifc) (B : List Ty) (f : Fun) (args : List Ty) (x : Ty) (h : args.length = f.f2.length) : callL W B f (args ++ [x]) = (-1, 12) :: callL W B f args := by
  unfold callL
  rw [unifyN_more _ _ _ _ h, show min f.f2.length (args ++ [x]).length = f.f2.length by rw [List.length_append, List.length_singleton]; omega, show min f.f2.length args.length = f.f2.length by omega, callP_more _ _ _ _ _ _ _ (by omega)]
  unfold callA
  rw [if_pos h, if_neg (by rw [List.length_append, List.length_singleton]; omega)]
  rfl
theorem RdW.tail {w : World} {A : Option Addr} {p : Wr} {l : List Wr} (h : RdW w A (p :: l)) : ∀ ad, A = some ad → RdW w (some (ad.add 2)) l := fun ad e j q hq => by
  obtain ⟨ad', h1, h2, h3⟩ := h (j + 1) q (by simpa using hq)
  rw [e] at h1
  obtain rfl : ad = ad' := by injection h1
  have e1 : (ad.add 2).add (j * 2) = ad.add ((j + 1) * 2) := by
    by_cases hj : j = 0
    · subst hj; simp [Addr.add]
    · have : j * 2 ≠ 0 := by omega
      have h4 : (j + 1) * 2 ≠ 0 := by omega
      simp only [Addr.add, if_neg this, if_neg h4, if_neg (show ¬ 2 = 0 by decide)]
      congr 1
      omega
  exact ⟨_, rfl, by rw [e1]; exact h2, by rw [e1]; exact h3⟩

structure RowT (W0 W : World) (A : Option Addr) (L : List Ty) (css : List (List Value)) : Prop where
  len : css.length = L.length
  each : ∀ cs ∈ css, cs.length = 5
  k : ∀ (j : Nat) x, L[j]? = some x → ∃ cs, css[j]? = some cs ∧ kTy.K W0 x cs
  one : ∀ u ∈ css.flatten, u.oneCell' = true
  nil : A = none → css = []
  cell : ∀ ad, A = some ad → ∀ (q : Nat) u, css.flatten[q]? = some u → W.cell? (ad.add q) = some u
theorem RowT.of {W : World} {A : Option Addr} {L : List Ty} (h : Kd.C kTy W A L.length L) : ∃ css, RowT W W A L css := by
  by_cases hn : 0 < L.length
  · obtain ⟨ad, rfl, _⟩ := h.2.2 hn
    obtain ⟨css, h1, h2, h3, h4, h5⟩ := C_cells (by decide) h hn
    refine ⟨css, h1, h2, h3, fun u hu => ?_, (fun e => by cases e), fun ad' e q u hq => by cases e; exact h5 q u hq⟩
    obtain ⟨cs, hcs, hu'⟩ := List.mem_flatten.1 hu
    obtain ⟨x, _, hK⟩ := h4 cs hcs
    exact kTy.K_one hK u hu'
  · have hl0 : L = [] := List.eq_nil_of_length_eq_zero (by omega)
    subst hl0
    exact ⟨[], rfl, by simp, by simp, by simp, fun _ => rfl, by simp⟩
theorem RowT.later {W0 W W1 : World} {A : Option Addr} {L : List Ty} {css : List (List Value)} (h : RowT W0 W A L css) (hb : Below W.heap.size W W1) : RowT W0 W1 A L css := ⟨h.len, h.each, h.k, h.one, h.nil, fun ad e q u hq => cell_later hb (h.cell ad e q u hq)⟩
theorem RowT.single {W0 W : World} {b : Nat} {x : Ty} {A : Option Addr} {c : Nat} {t : TypeId} {fr : Nat × Nat} (hb : W.heap[b]? = some (.cells #[.int .i64 x.f0, .string x.f1, .string x.f2, .int .i64 x.f3, .slice A x.f4.length c] t fr)) (hA : Kd.C kTy W0 A x.f4.length x.f4) (hc : x.f4.length ≤ c) : RowT W0 W (some ⟨b, 0, none⟩) [x] [[.int .i64 x.f0, .string x.f1, .string x.f2, .int .i64 x.f3, .slice A x.f4.length c]] where
  len := rfl
  each := by simp
  k := fun j y hy => by
    have h0 : j = 0 := by have := (List.getElem?_eq_some_iff.1 hy).1; simp at this; omega
    subst h0
    obtain rfl : x = y := by simpa using hy
    exact ⟨_, rfl, ty_K hA hc⟩
  one := by
    intro u hu
    simp only [List.flatten_cons, List.flatten_nil, List.append_nil, List.mem_cons, List.not_mem_nil, or_false] at hu
    rcases hu with rfl | rfl | rfl | rfl | rfl <;> rfl
  nil := fun e => by cases e
  cell := fun ad e q u hq => by
    cases e
    rw [Addr.add_lit, Nat.zero_add, blk_cell hb, ← Array.getElem?_toList]
    simpa using hq
theorem infoTyp : (Try.prog.info? 29).map (fun i => (i.zero, i.size, i.bytes)) = some (some (.agg #[.int .i64 0, .string ⟨#[]⟩, .string ⟨#[]⟩, .int .i64 0, .slice none 0 0]), 5, 72) := by kernel_rfl
theorem own_lit {W : World} {base g : Nat} (h : W.heap[g]? = some (.cells #[] 29 (0, 0))) (hb : base ≤ g) : W.ownsRow base 29 5 (.slice (some ⟨g, 0, none⟩) 0 0) 0 [] := ⟨rfl, .inr ⟨g, 0, #[], rfl, hb, h, Nat.le_refl _, Nat.zero_le _, rfl, rfl⟩⟩
theorem own_drewl {w w' : World} {base : Nat} {e : TypeId} {size n : Nat} {v : Value} {xs : List Value} (h : w.ownsRow base e size v n xs) (hb : Below w.heap.size w w') : w'.ownsRow base e size v n xs := own_later h hb
theorem with_fact {T G : Prop} (h : T) (k : T → G) : G := k h
theorem blk_drew {W : World} {b : Nat} {o : Obj} (h : W.heap[b]? = some o) : W.drew.heap[b]? = some o := h
theorem step_append_tys {ops : Array Oper} {o : Oper} {a : Act} {K : Act → World → Prop} {Q : Exit → Act → World → Prop} {E : Prop} {w W8 : World} (hgd : o.guard = none) (s x : Operand)
    (ho : o.op = .call { callee := .builtin .append, args := #[s, x], argTypes := #[24, 24] }) (v : Value) (n : Nat) (xs : List Value) (hs : a.eval s = v)
    (A : Option Addr) (L : List Ty) (c : Nat) (m : Nat) (hm : m = L.length) (hx : a.eval x = .slice A m c) {W0 : World} (css : List (List Value)) (hb : (n + m) * 72 ≤ 140737488355328) (hown : w.ownsRow W8.heap.size 29 5 v n xs) (hR : RowT W0 w A L css) (hbel : Below W8.heap.size W8 w)
    (h : ∀ v' w', w'.ownsRow W8.heap.size 29 5 v' (n + m) (xs ++ css.flatten) → Below W8.heap.size W8 w' → (∀ (b : Nat) (ob : Obj), w.heap[b]? = some ob → v.ownBlock ≠ some b → w'.heap[b]? = some ob ∧ v'.ownBlock ≠ some b) → RowT W0 w A L css → K (a.put o.dst v') w') : if Region.wanted o (yielded ops a.tmps) = true then Oper.wp Try.prog o a w K Q else E := by
  subst hm
  have hw : Region.wanted o (yielded ops a.tmps) = true := by simp [Region.wanted, hgd]
  rw [if_pos hw]
  obtain ⟨i, hi, hz0, hz1, hz2⟩ := info_parts infoTyp
  by_cases hl0 : L = []
  · subst hl0
    have hc0 : css = [] := List.eq_nil_of_length_eq_zero hR.len
    subst hc0
    have hrun : (Builtin.append_ #[24, 24] o.type #[v, .slice A 0 c]).run Try.prog w = .ok v w := by
      rcases hown.2 with ⟨rfl, h0⟩ | ⟨g, cap, cur, rfl, _, _, hnc, _⟩
      · cases A <;> simp [Builtin.append_, run_underlying Try.underlying24, sizeOf, typeInfo, hi, Builtin.lenOf, Builtin.firstCells, loadCells, loadCellsFrom, storeCells]
      · cases A <;> simp [Builtin.append_, run_underlying Try.underlying24, sizeOf, typeInfo, hi, Builtin.lenOf, Builtin.firstCells, hnc, loadCells, loadCellsFrom, storeCells]
    unfold Oper.wp execOp
    simp only [ho, resolve, invoke, builtin, Sem.run_bind, Sem.run_pure, Result.andThen_ok, List.map_toArray, List.map_cons, List.map_nil, hs, hx, List.length_nil, hrun]
    exact h v w (by simpa using hown) hbel (fun b ob hb hv => ⟨hb, hv⟩) hR
  · have hpos : 0 < L.length := List.length_pos_iff.2 hl0
    rcases A with _ | ad
    · have hc0 := hR.nil rfl
      have := hR.len
      rw [hc0] at this
      simp at this
      omega
    · refine wp_append_lies w s x 24 ho W8.heap.size 29 i _ 5 72 Try.underlying24 hi hz0 hz1 hz2 rfl (by decide) v n xs hs hown ad L.length c css.flatten hx ?_ (hR.cell ad rfl) hR.one hpos ?_ hb hbel.size w.heap.size rfl ?_
      · rw [flatten_length 5 css hR.each, hR.len]
      · unfold maxLen; omega
      · intro g cap w' h1 h2 h3 h4
        refine h _ w' h1 (hbel.grown h2 hbel.size (fun k hk => own_base hown k hk)) (fun b ob hb hv => ⟨(h2.block b (blk_lt hb) (fun e => hv e.symm)).trans hb, fun e => ?_⟩) hR
        have e2 : g = b := by simpa [Value.ownBlock] using e
        subst e2
        rcases h3 with h3 | h3
        · exact hv h3
        · have := blk_lt hb
          omega
theorem C_ownT {w0 w1 W0 W : World} {base : Nat} {v : Value} {L M : List Ty} {c1 c2 : List (List Value)} {A B : Option Addr} (h1 : RowT W0 w0 A L c1) (h2 : RowT W0 w1 B M c2) (hb : Below W0.heap.size W0 W) (hown : W.ownsRow base 29 5 v (L.length + M.length) (c1 ++ c2).flatten) (hm : (L ++ M).length ≤ 9223372036854775807) :
    ∃ A' c', v = .slice A' (L.length + M.length) c' ∧ (L ++ M).length ≤ c' ∧ Kd.C kTy W A' (L ++ M).length (L ++ M) := by
  rw [← List.length_append] at hown ⊢
  have hlen : (c1 ++ c2).length = (L ++ M).length := by rw [List.length_append, List.length_append, h1.len, h2.len]
  have heach : ∀ cs ∈ c1 ++ c2, cs.length = 5 := by
    intro cs hcs
    rcases List.mem_append.1 hcs with h | h
    · exact h1.each cs h
    · exact h2.each cs h
  have hK : ∀ (j : Nat) x, (L ++ M)[j]? = some x → ∃ cs, (c1 ++ c2)[j]? = some cs ∧ kTy.K W0 x cs := by
    intro j x hj
    by_cases hjl : j < L.length
    · rw [List.getElem?_append_left hjl] at hj
      rw [List.getElem?_append_left (by rw [h1.len]; exact hjl)]
      exact h1.k j x hj
    · rw [List.getElem?_append_right (by omega)] at hj
      rw [List.getElem?_append_right (by rw [h1.len]; omega), h1.len]
      exact h2.k _ x hj
  rcases hown.2 with ⟨rfl, h0⟩ | ⟨g, cap, cur, rfl, _, hg, hnc, _, _, htake⟩
  · have hn0 : (L ++ M).length = 0 := h0
    have hl0 : L ++ M = [] := List.eq_nil_of_length_eq_zero hn0
    rw [hl0]
    exact ⟨none, 0, rfl, Nat.le_refl _, ⟨rfl, by simp, fun h => by simp at h⟩⟩
  · refine ⟨_, cap, rfl, hnc, rfl, hm, fun hn => ⟨_, rfl, fun j p hp => ?_⟩⟩
    obtain ⟨cs, hcs, hk⟩ := hK j p hp
    have hl3 := heach cs (List.mem_of_getElem? hcs)
    refine ⟨cs, hl3, kTy.K_below hb hk, fun i u hu => ?_⟩
    have hi : i < 5 := by rw [← hl3]; exact (List.getElem?_eq_some_iff.1 hu).1
    have hq : (c1 ++ c2).flatten[j * 5 + i]? = some u := by
      rw [flatten_at 5 (by decide) _ heach, show (j * 5 + i) / 5 = j by omega, hcs, Option.bind_some, show (j * 5 + i) % 5 = i by omega]
      exact hu
    rw [Addr.add_lit, Nat.zero_add]
    show W.cell? ⟨g, j * 5 + i, none⟩ = some u
    rw [blk_cell hg, ← Array.getElem?_toList]
    rw [← htake, List.getElem?_take] at hq
    split at hq
    · exact hq
    · cases hq

def MoRel (W8 : World) (TT : Ty) (LL : List Wr) (s16 s17 : Value) (wx : World) : Prop := ∃ (g9 : Nat) (A9 : Option Addr) (c9 : Nat) (B9 : Option Addr) (d9 : Nat), s16 = .pointer (some ⟨g9, 0, none⟩) ∧ s17 = .slice B9 (LL.length + 1) d9 ∧ Hid (wx.heap[g9]? = some (.cells #[.int .i64 TT.f0, .string TT.f1, .string TT.f2, .int .i64 TT.f3, .slice A9 TT.f4.length c9] 29 (0, 0)) ∧ TT.f4.length ≤ c9 ∧ Kd.C kTy wx A9 TT.f4.length TT.f4 ∧ LL.length + 1 ≤ d9 ∧ RdW wx B9 ((-1, 12) :: LL) ∧ Below W8.heap.size W8 wx)
theorem moA {W8 w9 : World} {TT : Ty} {LL : List Wr} {A9 B9 : Option Addr} {c9 d9 N : Nat} (hc : TT.f4.length ≤ c9) (hC : Kd.F kTy w9 (fun b => N ≤ b) A9 TT.f4.length TT.f4) (hl : LL.length + 1 ≤ d9) (hR : RdW w9 B9 ((-1, 12) :: LL)) (hb : Below W8.heap.size W8 w9) :
    MoRel W8 TT LL (.pointer (some ⟨w9.heap.size, 0, none⟩)) (.slice B9 (LL.length + 1) d9) (w9.alloc (.cells #[.int .i64 TT.f0, .string TT.f1, .string TT.f2, .int .i64 TT.f3, .slice A9 TT.f4.length c9] 29)) :=
  ⟨_, A9, c9, B9, d9, rfl, rfl, Lib.hid ⟨blk_new _ _, hc, Kd.C_below (Kd.F_now hC) (bel_alloc (Below.refl _ _) _), hl, hR.later (bel_alloc (Below.refl _ _) _), bel_alloc hb _⟩⟩
theorem moB {W8 Wc w9 : World} {TT : Ty} {LL : List Wr} {A9 B9 : Option Addr} {c9 d9 b0 : Nat} (hc : TT.f4.length ≤ c9) (hC : Kd.F kTy w9 (fun b => Wc.heap.size ≤ b) A9 TT.f4.length TT.f4) (hl : LL.length + 1 ≤ d9) (hR : RdW w9 B9 ((-1, 12) :: LL)) (hN : ∀ ad, B9 = some ad → Wc.heap.size ≤ ad.block) (hb : Below W8.heap.size W8 w9) (hb9 : Below Wc.heap.size Wc w9)
    (hblkc : Wc.heap[b0]? = some (.cells #[.int .i64 0, .string ⟨#[]⟩, .string ⟨#[]⟩, .int .i64 0, .slice none 0 0] 29 (0, 0))) (h2 : W8.heap.size ≤ b0) :
    MoRel W8 TT LL (.pointer (some ⟨b0, 0, none⟩)) (.slice B9 (LL.length + 1) d9) (((((w9.setCell ⟨b0, 0, none⟩ (.int .i64 TT.f0)).setCell ⟨b0, 1, none⟩ (.string TT.f1)).setCell ⟨b0, 2, none⟩ (.string TT.f2)).setCell ⟨b0, 3, none⟩ (.int .i64 TT.f3)).setCell ⟨b0, 4, none⟩ (.slice A9 TT.f4.length c9)) := by
  have h1 := blk_lt hblkc
  have hblk := blk_later hb9 hblkc
  have hfar := chain_far w9 b0 TT A9 c9
  have hrs := (blk_set (blk_set (blk_set (blk_set (blk_set hblk 0 (.int .i64 TT.f0)) 1 (.string TT.f1)) 2 (.string TT.f2)) 3 (.int .i64 TT.f3)) 4 (.slice A9 TT.f4.length c9)).trans rfl
  have hbz : Below W8.heap.size W8 (((((w9.setCell ⟨b0, 0, none⟩ (.int .i64 TT.f0)).setCell ⟨b0, 1, none⟩ (.string TT.f1)).setCell ⟨b0, 2, none⟩ (.string TT.f2)).setCell ⟨b0, 3, none⟩ (.int .i64 TT.f3)).setCell ⟨b0, 4, none⟩ (.slice A9 TT.f4.length c9)) := ((((hb.setCell h2 _).setCell h2 _).setCell h2 _).setCell h2 _).setCell h2 _
  exact ⟨_, A9, c9, B9, d9, rfl, rfl, Lib.hid ⟨hrs, hc, Kd.F_now (Kd.F_step hC (fun b hb _ => hfar b (by omega))), hl, hR.far hN (fun b h3 _ => hfar b (by omega)), hbz⟩⟩

set_option maxRecDepth 100000 in
set_option maxHeartbeats 100000000 in
theorem inferMore_any (s : Scp) (a : ScA) (f : Fun) (b : FnA) (AA : Option Addr) (args : List Ty) (ca : Nat) (x : Ty) (AX : Option Addr) (cx : Nat) (w : World) (ok : WOk s.W ∧ (∀ t ∈ s.B, TyOk t) ∧ s.W.length * 64 ≤ 140737488351232) (hS : ScpC a s w) (okf : FunW f) (hF : FnC b f w) (lA : args.length ≤ ca) (h72 : args.length * 72 ≤ 140737488351232) (ha : ∀ x ∈ args, TyW x) (hA : Kd.C kTy w AA args.length args) (hxW : TyW x) (lX : x.f4.length ≤ cx) (hX : Kd.C kTy w AX x.f4.length x.f4) :
    Calls Try.prog 13 #[scV a s.W s.B, .agg (fnCs b f), .slice AA args.length ca, tyV x AX cx] w fun e w' => e = .returned (.bool true) ∧ Below w.heap.size w w' := by
  have HB := Lib.hid (bel_alloc (bel_alloc (bel_alloc (Below.refl w.heap.size w) (.cells #[.slice a.AW s.W.length a.cW, .slice a.AI a.nI a.cI, .slice a.AN a.nN a.cN, .slice a.AB s.B.length a.cB, .slice a.AV a.nV a.cV] 27)) (.cells #[.string f.f0, .slice b.A1 f.f1.length b.c1, .slice b.A2 f.f2.length b.c2, .int .i64 f.f3.f0, .string f.f3.f1, .string f.f3.f2, .int .i64 f.f3.f3, .slice b.A7 f.f3.f4.length b.c7] 58)) (.cells #[.int .i64 x.f0, .string x.f1, .string x.f2, .int .i64 x.f3, .slice AX x.f4.length cx] 29))
  have HS := Lib.hid (blk_alloc (blk_alloc (blk_new w (.cells #[.slice a.AW s.W.length a.cW, .slice a.AI a.nI a.cI, .slice a.AN a.nN a.cN, .slice a.AB s.B.length a.cB, .slice a.AV a.nV a.cV] 27)) (.cells #[.string f.f0, .slice b.A1 f.f1.length b.c1, .slice b.A2 f.f2.length b.c2, .int .i64 f.f3.f0, .string f.f3.f1, .string f.f3.f2, .int .i64 f.f3.f3, .slice b.A7 f.f3.f4.length b.c7] 58)) (.cells #[.int .i64 x.f0, .string x.f1, .string x.f2, .int .i64 x.f3, .slice AX x.f4.length cx] 29))
  have HF := Lib.hid (blk_alloc ((show ((w.alloc (.cells #[.slice a.AW s.W.length a.cW, .slice a.AI a.nI a.cI, .slice a.AN a.nN a.cN, .slice a.AB s.B.length a.cB, .slice a.AV a.nV a.cV] 27)).alloc (.cells #[.string f.f0, .slice b.A1 f.f1.length b.c1, .slice b.A2 f.f2.length b.c2, .int .i64 f.f3.f0, .string f.f3.f1, .string f.f3.f2, .int .i64 f.f3.f3, .slice b.A7 f.f3.f4.length b.c7] 58)).heap[w.heap.size + 1]? = some (.cells #[.string f.f0, .slice b.A1 f.f1.length b.c1, .slice b.A2 f.f2.length b.c2, .int .i64 f.f3.f0, .string f.f3.f1, .string f.f3.f2, .int .i64 f.f3.f3, .slice b.A7 f.f3.f4.length b.c7] 58 (0, 0)) from blk_newN _ _ _ (by simp))) (.cells #[.int .i64 x.f0, .string x.f1, .string x.f2, .int .i64 x.f3, .slice AX x.f4.length cx] 29))
  have HX := Lib.hid ((show (((w.alloc (.cells #[.slice a.AW s.W.length a.cW, .slice a.AI a.nI a.cI, .slice a.AN a.nN a.cN, .slice a.AB s.B.length a.cB, .slice a.AV a.nV a.cV] 27)).alloc (.cells #[.string f.f0, .slice b.A1 f.f1.length b.c1, .slice b.A2 f.f2.length b.c2, .int .i64 f.f3.f0, .string f.f3.f1, .string f.f3.f2, .int .i64 f.f3.f3, .slice b.A7 f.f3.f4.length b.c7] 58)).alloc (.cells #[.int .i64 x.f0, .string x.f1, .string x.f2, .int .i64 x.f3, .slice AX x.f4.length cx] 29)).heap[w.heap.size + 1 + 1]? = some (.cells #[.int .i64 x.f0, .string x.f1, .string x.f2, .int .i64 x.f3, .slice AX x.f4.length cx] 29 (0, 0)) from blk_newN _ _ _ (by simp)))
  generalize hW0 : (((w.alloc (.cells #[.slice a.AW s.W.length a.cW, .slice a.AI a.nI a.cI, .slice a.AN a.nN a.cN, .slice a.AB s.B.length a.cB, .slice a.AV a.nV a.cV] 27)).alloc (.cells #[.string f.f0, .slice b.A1 f.f1.length b.c1, .slice b.A2 f.f2.length b.c2, .int .i64 f.f3.f0, .string f.f3.f1, .string f.f3.f2, .int .i64 f.f3.f3, .slice b.A7 f.f3.f4.length b.c7] 58)).alloc (.cells #[.int .i64 x.f0, .string x.f1, .string x.f2, .int .i64 x.f3, .slice AX x.f4.length cx] 29)) = W0 at *
  have hms : args.length ≤ 9000000000000000000 := by omega
  have HSA := Lib.hid (fun (W : World) (hb : Below W0.heap.size W0 W) => (small12_any args AA ca W (Kd.C_below hA (bel_trans HB.out hb)) lA).mono (fun e w' h => (⟨h.choose, h.choose_spec.1, h.choose_spec.2.1, bel_trans hb h.choose_spec.2.2⟩ : ∃ r : Bool, e = .returned (.bool r) ∧ (r = true → SmallL args) ∧ Below W0.heap.size W0 w')))
  have HSP := Lib.hid (fun (W : World) (hb : Below W0.heap.size W0 W) => (small12_any f.f2 b.A2 b.c2 W (Kd.C_below hF.p_ (bel_trans HB.out hb)) hF.pc).mono (fun e w' h => (⟨h.choose, h.choose_spec.1, h.choose_spec.2.1, bel_trans hb h.choose_spec.2.2⟩ : ∃ r : Bool, e = .returned (.bool r) ∧ (r = true → SmallL f.f2) ∧ Below W0.heap.size W0 w')))
  have HSQ := Lib.hid (fun (W : World) (hb : Below W0.heap.size W0 W) => (small12_any f.f1 b.A1 b.c1 W (Kd.C_below hF.b_ (bel_trans HB.out hb)) hF.bc).mono (fun e w' h => (⟨h.choose, h.choose_spec.1, bel_trans hb h.choose_spec.2.2⟩ : ∃ r : Bool, e = .returned (.bool r) ∧ Below W0.heap.size W0 w')))
  have HLT := Lib.hid (fun (W : World) (hb : Below W0.heap.size W0 W) => (little_any a s W (hS.c.later (bel_trans HB.out hb))).mono (fun e w' h => (⟨h.choose, h.choose_spec.1, bel_trans hb h.choose_spec.2⟩ : ∃ r : Bool, e = .returned (.bool r) ∧ Below W0.heap.size W0 w')))
  have HPT := Lib.hid (fun (W : World) (hb : Below W0.heap.size W0 W) => (parts12_any (tyAll f.f3) b.A7 b.c7 0 W (by omega) (by omega) (Kd.C_below hF.r_ (bel_trans HB.out hb)) hF.rc).mono (fun e w' h => (⟨h.1, bel_trans hb h.2⟩ : e = .returned (.int .i64 (partsT f.f3 0)) ∧ Below W0.heap.size W0 w')))
  have HPX := Lib.hid (fun (W : World) (hb : Below W0.heap.size W0 W) => (parts12_any (tyAll x) AX cx 0 W (by omega) (by omega) (Kd.C_below hX (bel_trans HB.out hb)) lX).mono (fun e w' h => (⟨h.1, bel_trans hb h.2⟩ : e = .returned (.int .i64 (partsT x 0)) ∧ Below W0.heap.size W0 w')))
  have HCA := Lib.hid (fun (W : World) (hb : Below W0.heap.size W0 W) (hp : SmallL f.f2) => call_show a s.W s.B f b args AA ca W (hS.c.later (bel_trans HB.out hb)) ok.1 (hF.later (bel_trans HB.out hb)) (Kd.C_below hA (bel_trans HB.out hb)) lA okf.2.2.2.1 ha okf.2.2.2.2.ok hp)
  have HCB := Lib.hid (fun (W : World) (hb : Below W0.heap.size W0 W) (hp : SmallL f.f2) (hq : args.length = f.f2.length) (A' : Option Addr) (c' : Nat) (hC : Kd.C kTy W A' (args ++ [x]).length (args ++ [x])) (hl : (args ++ [x]).length ≤ c') => (show Calls Try.prog 43 #[.agg (scCs a s.W s.B), .agg (fnCs b f), .slice A' (args.length + 1) c'] W (fun e w' => ∃ A' c' B' d', e = .returned (.tuple #[tyV (callT f args) A' c', .slice B' ((callL s.W s.B f args).length + 1) d']) ∧ (callT f args).f4.length ≤ c' ∧ Kd.F kTy w' (fun b => W.heap.size ≤ b) A' (callT f args).f4.length (callT f args).f4 ∧ (callL s.W s.B f args).length + 1 ≤ d' ∧ (RdW w' B' ((-1, 12) :: callL s.W s.B f args) ∧ ∀ ad, B' = some ad → W.heap.size ≤ ad.block) ∧ Below W.heap.size W w') from by
    have h := call_showF a s.W s.B f b (args ++ [x]) A' c' W (hS.c.later (bel_trans HB.out hb)) ok.1 (hF.later (bel_trans HB.out hb)) hC hl okf.2.2.2.1 (by intro y hy; rcases List.mem_append.1 hy with h | h; exact ha y h; rw [List.mem_singleton.1 h]; exact hxW) okf.2.2.2.2.ok hp
    rw [callT_more _ _ _ hq, callL_more _ _ _ _ _ hq, List.length_cons, List.length_append] at h
    exact h))
  obtain ⟨css, hcss⟩ := RowT.of hA
  have HRA := Lib.hid (fun (W : World) (hb : Below W0.heap.size W0 W) => hcss.later (bel_trans HB.out hb))
  have HRX := Lib.hid (And.intro hX lX)
  have HLL := Lib.hid (callL_bound2 s.W s.B f args hms)
  have HLN := Lib.hid hms
  generalize callT f args = TT at *
  generalize callL s.W s.B f args = LL at *
  generalize partsT f.f3 0 = pn at *
  generalize partsT x 0 = px at *
  simp only [tyV, scCs, fnCs] at HCA HCB
  clear hS ok okf hF lA h72 ha hA hms hxW lX hX hcss
  simp only [scV, fnCs, tyV]
  have HSB := Lib.hid (fun (W : World) (hb : Below W0.heap.size W0 W) => (show W.cell? ⟨w.heap.size, 0, none⟩ = some (.slice a.AW s.W.length a.cW) ∧ W.cell? ⟨w.heap.size, 1, none⟩ = some (.slice a.AI a.nI a.cI) ∧ W.cell? ⟨w.heap.size, 2, none⟩ = some (.slice a.AN a.nN a.cN) ∧ W.cell? ⟨w.heap.size, 3, none⟩ = some (.slice a.AB s.B.length a.cB) ∧ W.cell? ⟨w.heap.size, 4, none⟩ = some (.slice a.AV a.nV a.cV) ∧ W.cell? ⟨w.heap.size + 1, 0, none⟩ = some (.string f.f0) ∧ W.cell? ⟨w.heap.size + 1, 1, none⟩ = some (.slice b.A1 f.f1.length b.c1) ∧ W.cell? ⟨w.heap.size + 1, 2, none⟩ = some (.slice b.A2 f.f2.length b.c2) ∧ W.cell? ⟨w.heap.size + 1, 3, none⟩ = some (.int .i64 f.f3.f0) ∧ W.cell? ⟨w.heap.size + 1, 4, none⟩ = some (.string f.f3.f1) ∧ W.cell? ⟨w.heap.size + 1, 5, none⟩ = some (.string f.f3.f2) ∧ W.cell? ⟨w.heap.size + 1, 6, none⟩ = some (.int .i64 f.f3.f3) ∧ W.cell? ⟨w.heap.size + 1, 7, none⟩ = some (.slice b.A7 f.f3.f4.length b.c7) ∧ W.cell? ⟨w.heap.size + 1 + 1, 0, none⟩ = some (.int .i64 x.f0) ∧ W.cell? ⟨w.heap.size + 1 + 1, 1, none⟩ = some (.string x.f1) ∧ W.cell? ⟨w.heap.size + 1 + 1, 2, none⟩ = some (.string x.f2) ∧ W.cell? ⟨w.heap.size + 1 + 1, 3, none⟩ = some (.int .i64 x.f3) ∧ W.cell? ⟨w.heap.size + 1 + 1, 4, none⟩ = some (.slice AX x.f4.length cx) from ⟨(blk_cell (blk_later hb HS.out) 0).trans rfl, (blk_cell (blk_later hb HS.out) 1).trans rfl, (blk_cell (blk_later hb HS.out) 2).trans rfl, (blk_cell (blk_later hb HS.out) 3).trans rfl, (blk_cell (blk_later hb HS.out) 4).trans rfl, (blk_cell (blk_later hb HF.out) 0).trans rfl, (blk_cell (blk_later hb HF.out) 1).trans rfl, (blk_cell (blk_later hb HF.out) 2).trans rfl, (blk_cell (blk_later hb HF.out) 3).trans rfl, (blk_cell (blk_later hb HF.out) 4).trans rfl, (blk_cell (blk_later hb HF.out) 5).trans rfl, (blk_cell (blk_later hb HF.out) 6).trans rfl, (blk_cell (blk_later hb HF.out) 7).trans rfl, (blk_cell (blk_later hb HX.out) 0).trans rfl, (blk_cell (blk_later hb HX.out) 1).trans rfl, (blk_cell (blk_later hb HX.out) 2).trans rfl, (blk_cell (blk_later hb HX.out) 3).trans rfl, (blk_cell (blk_later hb HX.out) 4).trans rfl⟩))
  go_enter Try.func13, Try.ntmps13
  go_wp2_with (fail)
  clear hW0
  refine (awake12_any _).mono ?_
  rintro e w1 ⟨rfl, hb1⟩
  go_wp2_with (fail)
  refine (HSA.out _ hb1).mono ?_
  rintro e w2 ⟨r1, rfl, hr1, hb2⟩
  have HR1 := Lib.hid hr1
  clear hb1 HSA hr1
  obtain ⟨z0, z1, z2, z3, z4, z5, z6, z7, z8, z9, z10, z11, z12, z13, z14, z15, z16, z17⟩ := HSB.out w2 hb2
  go_wp2_with (fail)
  clear z0 z1 z2 z3 z4 z5 z6 z7 z8 z9 z10 z11 z12 z13 z14 z15 z16 z17
  refine (HSP.out _ hb2).mono ?_
  rintro e w3 ⟨r2, rfl, hr2, hb3⟩
  have HR2 := Lib.hid hr2
  clear hb2 HSP hr2
  obtain ⟨z0, z1, z2, z3, z4, z5, z6, z7, z8, z9, z10, z11, z12, z13, z14, z15, z16, z17⟩ := HSB.out w3 hb3
  go_wp2_with (fail)
  clear z0 z1 z2 z3 z4 z5 z6 z7 z8 z9 z10 z11 z12 z13 z14 z15 z16 z17
  refine (HSQ.out _ hb3).mono ?_
  rintro e w4 ⟨r3, rfl, hb4⟩
  clear hb3 HSQ
  obtain ⟨z0, z1, z2, z3, z4, z5, z6, z7, z8, z9, z10, z11, z12, z13, z14, z15, z16, z17⟩ := HSB.out w4 hb4
  go_wp2_with (fail)
  clear z0 z1 z2 z3 z4 z5 z6 z7 z8 z9 z10 z11 z12 z13 z14 z15 z16 z17
  refine (HLT.out _ hb4).mono ?_
  rintro e w5 ⟨r4, rfl, hb5⟩
  clear hb4 HLT
  have HBE := Lib.hid (bel_trans HB.out hb5)
  obtain ⟨z0, z1, z2, z3, z4, z5, z6, z7, z8, z9, z10, z11, z12, z13, z14, z15, z16, z17⟩ := HSB.out w5 hb5
  cases r1 with
  | false => (go_wp2_with (fail)); go_ret; exact ⟨rfl, HBE.out⟩
  | true =>
  cases r2 with
  | false => (go_wp2_with (fail)); go_ret; exact ⟨rfl, HBE.out⟩
  | true =>
  cases r3 with
  | false => (go_wp2_with (fail)); go_ret; exact ⟨rfl, HBE.out⟩
  | true =>
  cases r4 with
  | false => (go_wp2_with (fail)); go_ret; exact ⟨rfl, HBE.out⟩
  | true =>
  have HSM := Lib.hid (HR2.out rfl)
  have HSM1 := Lib.hid (HR1.out rfl)
  clear HR2 HR1
  go_wp2_with (fail)
  clear z0 z1 z2 z3 z4 z5 z6 z7 z8 z9 z10 z11 z12 z13 z14 z15 z16 z17 HBE
  refine (HPT.out _ hb5).mono ?_
  rintro e w6 ⟨rfl, hb6⟩
  clear hb5 HPT
  obtain ⟨z0, z1, z2, z3, z4, z5, z6, z7, z8, z9, z10, z11, z12, z13, z14, z15, z16, z17⟩ := HSB.out w6 hb6
  by_cases hpn : 60 < pn
  · have hd : decide (60 < pn) = true := decide_eq_true hpn
    have HBE := Lib.hid (bel_trans HB.out hb6)
    go_wp2_with (fail)
    go_ret
    exact ⟨rfl, HBE.out⟩
  have hd : decide (60 < pn) = false := decide_eq_false hpn
  go_wp2_with (fail)
  clear z0 z1 z2 z3 z4 z5 z6 z7 z8 z9 z10 z11 z12 z13 z14 z15 z16 z17 hd hpn
  refine (HPX.out _ hb6).mono ?_
  rintro e w6 ⟨rfl, hb6⟩
  clear HPX
  obtain ⟨z0, z1, z2, z3, z4, z5, z6, z7, z8, z9, z10, z11, z12, z13, z14, z15, z16, z17⟩ := HSB.out w6 hb6
  by_cases hpn : 60 < px
  · have hd : decide (60 < px) = true := decide_eq_true hpn
    have HBE := Lib.hid (bel_trans HB.out hb6)
    go_wp2_with (fail)
    go_ret
    exact ⟨rfl, HBE.out⟩
  have hd : decide (60 < px) = false := decide_eq_false hpn
  by_cases hlen : ¬ args.length = f.f2.length
  · have e1 : (args.length != f.f2.length) = true := by simp [hlen]
    have e2 : ((args.length : Int) != (f.f2.length : Int)) = true := by simp; omega
    have HBE := Lib.hid (bel_trans HB.out hb6)
    clear hlen
    go_wp2_with (fail)
    go_ret
    exact ⟨rfl, HBE.out⟩
  replace hlen := Classical.not_not.1 hlen
  have e1 : (args.length != f.f2.length) = false := by simp [hlen]
  have e2 : ((args.length : Int) != (f.f2.length : Int)) = false := by simp; omega
  have HLE := Lib.hid hlen
  clear hlen hpn
  go_wp2_with (fail)
  clear z0 z1 z2 z3 z4 z5 z6 z7 z8 z9 z10 z11 z12 z13 z14 z15 z16 z17 hd e1 e2
  refine (HCA.out _ hb6 HSM.out).mono ?_
  rintro e w7 ⟨A7, c7, B7, d7, rfl, hc7, hC7, hl7, hR7, hb7⟩
  have HT7 := Lib.hid (And.intro (And.intro hc7 (Kd.C_below hC7 (bel_alloc (Below.refl _ _) (.cells #[.int .i64 TT.f0, .string TT.f1, .string TT.f2, .int .i64 TT.f3, .slice A7 TT.f4.length c7] 29)))) (And.intro hl7 (hR7.later (bel_alloc (Below.refl _ _) (.cells #[.int .i64 TT.f0, .string TT.f1, .string TT.f2, .int .i64 TT.f3, .slice A7 TT.f4.length c7] 29)))))
  have HB7 := Lib.hid (bel_alloc (bel_trans hb6 hb7) (.cells #[.int .i64 TT.f0, .string TT.f1, .string TT.f2, .int .i64 TT.f3, .slice A7 TT.f4.length c7] 29))
  have HX7 := Lib.hid (blk_new w7 (.cells #[.int .i64 TT.f0, .string TT.f1, .string TT.f2, .int .i64 TT.f3, .slice A7 TT.f4.length c7] 29))
  clear hb6 hb7 hc7 hC7 hl7 hR7 HCA
  obtain ⟨z0, z1, z2, z3, z4, z5, z6, z7, z8, z9, z10, z11, z12, z13, z14, z15, z16, z17⟩ := HSB.out _ HB7.out
  go_upto_region 9 with (fail)
  clear z0 z1 z2 z3 z4 z5 z6 z7 z8 z9 z10 z11 z12 z13 z14 z15 z16 z17
  generalize w7.alloc (.cells #[.int .i64 TT.f0, .string TT.f1, .string TT.f2, .int .i64 TT.f3, .slice A7 TT.f4.length c7] 29) = W8 at *
  generalize w7.heap.size = g7 at *
  have HSC := Lib.hid (fun (W : World) (hb : Below W8.heap.size W8 W) => HSB.out W (bel_trans HB7.out hb))
  have HRB := Lib.hid (fun (W : World) (hb : Below W8.heap.size W8 W) => HRA.out W (bel_trans HB7.out hb))
  have HCC := Lib.hid (fun (W : World) (hb : Below W8.heap.size W8 W) (A' : Option Addr) (c' : Nat) (hC : Kd.C kTy W A' (args ++ [x]).length (args ++ [x])) (hl : (args ++ [x]).length ≤ c') => HCB.out W (bel_trans HB7.out hb) HSM.out HLE.out A' c' hC hl)
  go_cut [16, 17] from 18 (fun s16 s17 wx => MoRel W8 TT LL s16 s17 wx)
  case first =>
    have HRXW := Lib.hid (fun (W : World) (gx : Nat) (h : W.heap[gx]? = some (.cells #[.int .i64 x.f0, .string x.f1, .string x.f2, .int .i64 x.f3, .slice AX x.f4.length cx] 29 (0, 0))) => RowT.single h HRX.out.1 HRX.out.2)
    have HFC := Lib.hid (fun (W Wx : World) (v : Value) (hbe : Below W8.heap.size W8 W) (hown : W.ownsRow W8.heap.size 29 5 v (0 + args.length + 1) ([] ++ css.flatten ++ [[.int .i64 x.f0, .string x.f1, .string x.f2, .int .i64 x.f3, .slice AX x.f4.length cx]].flatten)) (Bx : Option Addr) (h : RowT w Wx Bx [x] [[.int .i64 x.f0, .string x.f1, .string x.f2, .int .i64 x.f3, .slice AX x.f4.length cx]]) => (show ∃ A' c', v = .slice A' (args.length + 1) c' ∧ (args ++ [x]).length ≤ c' ∧ Kd.C kTy W A' (args ++ [x]).length (args ++ [x]) from C_ownT (HRB.out W hbe) h (bel_trans HB.out (bel_trans HB7.out hbe)) (by simpa using hown) (by rw [List.length_append, List.length_singleton]; have := HLN.out; omega)))
    go_region_held3 (fun W : World => W.cell? ⟨w.heap.size, 0, none⟩ = some (.slice a.AW s.W.length a.cW) ∧ W.cell? ⟨w.heap.size, 1, none⟩ = some (.slice a.AI a.nI a.cI) ∧ W.cell? ⟨w.heap.size, 2, none⟩ = some (.slice a.AN a.nN a.cN) ∧ W.cell? ⟨w.heap.size, 3, none⟩ = some (.slice a.AB s.B.length a.cB) ∧ W.cell? ⟨w.heap.size, 4, none⟩ = some (.slice a.AV a.nV a.cV) ∧ W.cell? ⟨w.heap.size + 1, 0, none⟩ = some (.string f.f0) ∧ W.cell? ⟨w.heap.size + 1, 1, none⟩ = some (.slice b.A1 f.f1.length b.c1) ∧ W.cell? ⟨w.heap.size + 1, 2, none⟩ = some (.slice b.A2 f.f2.length b.c2) ∧ W.cell? ⟨w.heap.size + 1, 3, none⟩ = some (.int .i64 f.f3.f0) ∧ W.cell? ⟨w.heap.size + 1, 4, none⟩ = some (.string f.f3.f1) ∧ W.cell? ⟨w.heap.size + 1, 5, none⟩ = some (.string f.f3.f2) ∧ W.cell? ⟨w.heap.size + 1, 6, none⟩ = some (.int .i64 f.f3.f3) ∧ W.cell? ⟨w.heap.size + 1, 7, none⟩ = some (.slice b.A7 f.f3.f4.length b.c7) ∧ W.cell? ⟨w.heap.size + 1 + 1, 0, none⟩ = some (.int .i64 x.f0) ∧ W.cell? ⟨w.heap.size + 1 + 1, 1, none⟩ = some (.string x.f1) ∧ W.cell? ⟨w.heap.size + 1 + 1, 2, none⟩ = some (.string x.f2) ∧ W.cell? ⟨w.heap.size + 1 + 1, 3, none⟩ = some (.int .i64 x.f3) ∧ W.cell? ⟨w.heap.size + 1 + 1, 4, none⟩ = some (.slice AX x.f4.length cx)) ((refine HSC.out _ ?_; repeat (first | with_reducible assumption | with_reducible exact Below.refl _ _ | with_reducible refine bel_drew ?_ | with_reducible refine bel_alloc ?_ _ | exact Below.refl _ _ | refine bel_drew ?_ | refine bel_alloc ?_ _ | refine Below.setCell ?_ (by simp only; omega) _))) (first
      | ((refine step_append_tys (W8 := W8) (by rfl) (.tmp 74) (.tmp 75) (by rfl) (.slice (some ⟨_, 0, none⟩) 0 0) 0 [] (by rfl) AA args ca args.length rfl (by rfl) css (by have := HSM1.out.1; omega) ?_ (HRB.out _ ?_) ?_ ?_); (iterate 1 (refine own_lit ?_ ?_)); (iterate 1 (repeat (first | with_reducible refine blk_drew ?_ | (focus (refine blk_newN _ _ _ ?_; simp; done)) | with_reducible refine blk_alloc ?_ _ | (focus (intro hqq; simp [Value.ownBlock] at hqq; done)) | (focus (intro hqq; simp [Value.ownBlock] at hqq; omega))))); (iterate 1 (first | exact Nat.le_refl _ | (focus omega) | (focus (simp; done)) | (focus (simp; omega)))); (iterate 1 (repeat (first | with_reducible assumption | with_reducible exact Below.refl _ _ | with_reducible refine bel_drew ?_ | with_reducible refine bel_alloc ?_ _ | exact Below.refl _ _ | refine bel_drew ?_ | refine bel_alloc ?_ _))); (iterate 1 (repeat (first | with_reducible assumption | with_reducible exact Below.refl _ _ | with_reducible refine bel_drew ?_ | with_reducible refine bel_alloc ?_ _ | exact Below.refl _ _ | refine bel_drew ?_ | refine bel_alloc ?_ _))); intro v1 wa hown1 hbel1 hz1 _; have hsa := hbel1.size; have HO1 := Lib.hid hown1; have HZ1 := Lib.hid hz1; clear hown1 hz1)
      | ((refine step_append_tys (W8 := W8) (by rfl) (.tmp 76) (.tmp 78) (by rfl) _ _ _ (by rfl) _ [x] 1 1 rfl (by rfl) [[.int .i64 x.f0, .string x.f1, .string x.f2, .int .i64 x.f3, .slice AX x.f4.length cx]] (by have := HSM1.out.1; omega) (own_drewl HO1.out ?_) (HRXW.out _ _ ?_) ?_ ?_); (iterate 1 (repeat (first | with_reducible assumption | with_reducible exact Below.refl _ _ | with_reducible refine bel_drew ?_ | with_reducible refine bel_alloc ?_ _ | exact Below.refl _ _ | refine bel_drew ?_ | refine bel_alloc ?_ _))); (iterate 1 (repeat (first | with_reducible refine blk_drew ?_ | (focus (refine blk_newN _ _ _ ?_; simp; done)) | with_reducible refine blk_alloc ?_ _ | refine (HZ1.out _ _ ?_ ?_).1 | refine (HZ1.out _ (.cells #[.int .i64 0, .string ⟨#[]⟩, .string ⟨#[]⟩, .int .i64 0, .slice none 0 0] 29 (0, 0)) ?_ ?_).2 | (focus (intro hqq; simp [Value.ownBlock] at hqq; done)) | (focus (intro hqq; simp [Value.ownBlock] at hqq; omega))))); (iterate 1 (repeat (first | with_reducible assumption | with_reducible exact Below.refl _ _ | with_reducible refine bel_drew ?_ | with_reducible refine bel_alloc ?_ _ | exact Below.refl _ _ | refine bel_drew ?_ | refine bel_alloc ?_ _))); intro v2 wb hown2 hbel2 hz2 hxx; have HXX := Lib.hid hxx; clear hxx; have hsb := hbel2.size; have HO2 := Lib.hid hown2; have HZ2 := Lib.hid hz2; clear hown2 hz2)
      | (go_at_call 43; obtain ⟨A', c', hv2, hle2, hC2⟩ := HFC.out wb _ v2 hbel2 HO2.out _ HXX.out; subst hv2; refine (HCC.out _ ?_ A' c' (Kd.C_below hC2 ?_) hle2).mono ?_; (iterate 1 (repeat (first | with_reducible assumption | with_reducible exact Below.refl _ _ | with_reducible refine bel_drew ?_ | with_reducible refine bel_alloc ?_ _ | exact Below.refl _ _ | refine bel_drew ?_ | refine bel_alloc ?_ _))); (iterate 1 (repeat (first | with_reducible assumption | with_reducible exact Below.refl _ _ | with_reducible refine bel_drew ?_ | with_reducible refine bel_alloc ?_ _ | exact Below.refl _ _ | refine bel_drew ?_ | refine bel_alloc ?_ _))); rintro e w9 ⟨A9, c9, B9, d9, rfl, hc9, hC9, hl9, ⟨hR9, hN9⟩, hb9⟩; have hb99 : Below W8.heap.size W8 w9 := (by refine bel_trans ?_ hb9; repeat (first | with_reducible assumption | with_reducible exact Below.refl _ _ | with_reducible refine bel_drew ?_ | with_reducible refine bel_alloc ?_ _ | exact Below.refl _ _ | refine bel_drew ?_ | refine bel_alloc ?_ _)); first | ((first | (refine with_fact (T := w9.heap[W8.heap.size]? = some (.cells #[.int .i64 0, .string ⟨#[]⟩, .string ⟨#[]⟩, .int .i64 0, .slice none 0 0] 29 (0, 0))) ?_ ?_; (focus (refine blk_later hb9 ?_; (repeat (first | with_reducible refine blk_drew ?_ | (focus (refine blk_newN _ _ _ ?_; simp; done)) | with_reducible refine blk_alloc ?_ _ | (focus (intro hqq; have hq1 := (HO1.out.lt _ hqq).2; omega)) | refine (HZ2.out _ _ ?_ ?_).1 | refine (HZ2.out _ (.cells #[.int .i64 0, .string ⟨#[]⟩, .string ⟨#[]⟩, .int .i64 0, .slice none 0 0] 29 (0, 0)) ?_ ?_).2 | refine (HZ1.out _ _ ?_ ?_).1 | refine (HZ1.out _ (.cells #[.int .i64 0, .string ⟨#[]⟩, .string ⟨#[]⟩, .int .i64 0, .slice none 0 0] 29 (0, 0)) ?_ ?_).2 | (focus (intro hqq; simp [Value.ownBlock] at hqq; done)) | (focus (intro hqq; simp [Value.ownBlock] at hqq; omega)))); done)); intro hzz) | (refine with_fact (T := w9.heap[W8.heap.size + 1]? = some (.cells #[.int .i64 0, .string ⟨#[]⟩, .string ⟨#[]⟩, .int .i64 0, .slice none 0 0] 29 (0, 0))) ?_ ?_; (focus (refine blk_later hb9 ?_; (repeat (first | with_reducible refine blk_drew ?_ | (focus (refine blk_newN _ _ _ ?_; simp; done)) | with_reducible refine blk_alloc ?_ _ | (focus (intro hqq; have hq1 := (HO1.out.lt _ hqq).2; omega)) | refine (HZ2.out _ _ ?_ ?_).1 | refine (HZ2.out _ (.cells #[.int .i64 0, .string ⟨#[]⟩, .string ⟨#[]⟩, .int .i64 0, .slice none 0 0] 29 (0, 0)) ?_ ?_).2 | refine (HZ1.out _ _ ?_ ?_).1 | refine (HZ1.out _ (.cells #[.int .i64 0, .string ⟨#[]⟩, .string ⟨#[]⟩, .int .i64 0, .slice none 0 0] 29 (0, 0)) ?_ ?_).2 | (focus (intro hqq; simp [Value.ownBlock] at hqq; done)) | (focus (intro hqq; simp [Value.ownBlock] at hqq; omega)))); done)); intro hzz) | (refine with_fact (T := w9.heap[W8.heap.size + 1 + 1]? = some (.cells #[.int .i64 0, .string ⟨#[]⟩, .string ⟨#[]⟩, .int .i64 0, .slice none 0 0] 29 (0, 0))) ?_ ?_; (focus (refine blk_later hb9 ?_; (repeat (first | with_reducible refine blk_drew ?_ | (focus (refine blk_newN _ _ _ ?_; simp; done)) | with_reducible refine blk_alloc ?_ _ | (focus (intro hqq; have hq1 := (HO1.out.lt _ hqq).2; omega)) | refine (HZ2.out _ _ ?_ ?_).1 | refine (HZ2.out _ (.cells #[.int .i64 0, .string ⟨#[]⟩, .string ⟨#[]⟩, .int .i64 0, .slice none 0 0] 29 (0, 0)) ?_ ?_).2 | refine (HZ1.out _ _ ?_ ?_).1 | refine (HZ1.out _ (.cells #[.int .i64 0, .string ⟨#[]⟩, .string ⟨#[]⟩, .int .i64 0, .slice none 0 0] 29 (0, 0)) ?_ ?_).2 | (focus (intro hqq; simp [Value.ownBlock] at hqq; done)) | (focus (intro hqq; simp [Value.ownBlock] at hqq; omega)))); done)); intro hzz) | (refine with_fact (T := w9.heap[wa.heap.size]? = some (.cells #[.int .i64 0, .string ⟨#[]⟩, .string ⟨#[]⟩, .int .i64 0, .slice none 0 0] 29 (0, 0))) ?_ ?_; (focus (refine blk_later hb9 ?_; (repeat (first | with_reducible refine blk_drew ?_ | (focus (refine blk_newN _ _ _ ?_; simp; done)) | with_reducible refine blk_alloc ?_ _ | (focus (intro hqq; have hq1 := (HO1.out.lt _ hqq).2; omega)) | refine (HZ2.out _ _ ?_ ?_).1 | refine (HZ2.out _ (.cells #[.int .i64 0, .string ⟨#[]⟩, .string ⟨#[]⟩, .int .i64 0, .slice none 0 0] 29 (0, 0)) ?_ ?_).2 | refine (HZ1.out _ _ ?_ ?_).1 | refine (HZ1.out _ (.cells #[.int .i64 0, .string ⟨#[]⟩, .string ⟨#[]⟩, .int .i64 0, .slice none 0 0] 29 (0, 0)) ?_ ?_).2 | (focus (intro hqq; simp [Value.ownBlock] at hqq; done)) | (focus (intro hqq; simp [Value.ownBlock] at hqq; omega)))); done)); intro hzz) | (refine with_fact (T := w9.heap[wa.heap.size + 1]? = some (.cells #[.int .i64 0, .string ⟨#[]⟩, .string ⟨#[]⟩, .int .i64 0, .slice none 0 0] 29 (0, 0))) ?_ ?_; (focus (refine blk_later hb9 ?_; (repeat (first | with_reducible refine blk_drew ?_ | (focus (refine blk_newN _ _ _ ?_; simp; done)) | with_reducible refine blk_alloc ?_ _ | (focus (intro hqq; have hq1 := (HO1.out.lt _ hqq).2; omega)) | refine (HZ2.out _ _ ?_ ?_).1 | refine (HZ2.out _ (.cells #[.int .i64 0, .string ⟨#[]⟩, .string ⟨#[]⟩, .int .i64 0, .slice none 0 0] 29 (0, 0)) ?_ ?_).2 | refine (HZ1.out _ _ ?_ ?_).1 | refine (HZ1.out _ (.cells #[.int .i64 0, .string ⟨#[]⟩, .string ⟨#[]⟩, .int .i64 0, .slice none 0 0] 29 (0, 0)) ?_ ?_).2 | (focus (intro hqq; simp [Value.ownBlock] at hqq; done)) | (focus (intro hqq; simp [Value.ownBlock] at hqq; omega)))); done)); intro hzz) | (refine with_fact (T := w9.heap[wb.heap.size]? = some (.cells #[.int .i64 0, .string ⟨#[]⟩, .string ⟨#[]⟩, .int .i64 0, .slice none 0 0] 29 (0, 0))) ?_ ?_; (focus (refine blk_later hb9 ?_; (repeat (first | with_reducible refine blk_drew ?_ | (focus (refine blk_newN _ _ _ ?_; simp; done)) | with_reducible refine blk_alloc ?_ _ | (focus (intro hqq; have hq1 := (HO1.out.lt _ hqq).2; omega)) | refine (HZ2.out _ _ ?_ ?_).1 | refine (HZ2.out _ (.cells #[.int .i64 0, .string ⟨#[]⟩, .string ⟨#[]⟩, .int .i64 0, .slice none 0 0] 29 (0, 0)) ?_ ?_).2 | refine (HZ1.out _ _ ?_ ?_).1 | refine (HZ1.out _ (.cells #[.int .i64 0, .string ⟨#[]⟩, .string ⟨#[]⟩, .int .i64 0, .slice none 0 0] 29 (0, 0)) ?_ ?_).2 | (focus (intro hqq; simp [Value.ownBlock] at hqq; done)) | (focus (intro hqq; simp [Value.ownBlock] at hqq; omega)))); done)); intro hzz)); have cz0 := cell_at hzz 0 _ rfl; have cz1 := cell_at hzz 1 _ rfl; have cz2 := cell_at hzz 2 _ rfl; have cz3 := cell_at hzz 3 _ rfl; have cz4 := cell_at hzz 4 _ rfl; have fz0 := blk_free hzz 0; have fz1 := blk_free hzz 1; have fz2 := blk_free hzz 2; have fz3 := blk_free hzz 3; have fz4 := blk_free hzz 4; replace hzz := Lib.hid hzz) | skip)
      )
    all_goals
      go_wp2_with (fail)
      go_meet
      case rel =>
        first
          | (with_reducible exact moA hc9 hC9 hl9 hR9 hb99)
          | (refine moB hc9 hC9 hl9 hR9 hN9 hb99 hb9 ?_ ?_
             iterate 1 (repeat (first | with_reducible refine blk_drew ?_ | (focus (refine blk_newN _ _ _ ?_; simp; done)) | with_reducible refine blk_alloc ?_ _ | (focus (intro hqq; have hq1 := (HO1.out.lt _ hqq).2; omega)) | refine (HZ2.out _ _ ?_ ?_).1 | refine (HZ2.out _ (.cells #[.int .i64 0, .string ⟨#[]⟩, .string ⟨#[]⟩, .int .i64 0, .slice none 0 0] 29 (0, 0)) ?_ ?_).2 | refine (HZ1.out _ _ ?_ ?_).1 | refine (HZ1.out _ (.cells #[.int .i64 0, .string ⟨#[]⟩, .string ⟨#[]⟩, .int .i64 0, .slice none 0 0] 29 (0, 0)) ?_ ?_).2 | (focus (intro hqq; simp [Value.ownBlock] at hqq; done)) | (focus (intro hqq; simp [Value.ownBlock] at hqq; omega))))
             all_goals first | omega | (simp <;> omega))
  case rest =>
  obtain ⟨g9, A9, c9, B9, d9, rfl, rfl, HQ⟩ := hcut
  have HBZ := Lib.hid HQ.out.2.2.2.2.2
  obtain ⟨x0, x1, x2, x3, x4⟩ := ty_cells (blk_later HBZ.out HX7.out)
  obtain ⟨y0, y1, y2, y3, y4⟩ := ty_cells HQ.out.1
  have HEQ := Lib.hid (equal_self (tyAll TT) A7 A9 c7 c9 wc (Kd.C_below HT7.out.1.2 HBZ.out) HT7.out.1.1 HQ.out.2.2.1 HQ.out.2.1)
  go_wp2_with (fail)
  clear x0 x1 x2 x3 x4 y0 y1 y2 y3 y4
  refine HEQ.out.mono ?_
  rintro e w10 ⟨rfl, hb10⟩
  obtain ⟨ad, hAd, m0, m1⟩ := (HQ.out.2.2.2.2.1.later hb10) 0 (-1, 12) rfl
  have hR9 := HQ.out.2.2.2.2.1.later hb10
  subst hAd
  have e8 : ad.add (0 * 2) = ad := by simp [Addr.add]
  rw [e8] at m0 m1
  clear e8
  obtain ⟨iw, hiw, _, hz1w, _⟩ := info_parts infoWr
  obtain ⟨A10, hA10⟩ : ∃ A, A = (if d9 = 1 then some ad else some (ad.add 2)) := ⟨_, rfl⟩
  have S1 : ∀ W : World, (Instr.slice 60 (.slice (some ad) (LL.length + 1) d9) (some (.int .i64 1)) none none).run Try.prog W = .ok (.slice A10 LL.length (d9 - 1)) W := by
    intro W
    have h := cut_from (P := Try.prog) 60 66 .i64 Try.underlying60 hiw 2 hz1w (some ad) (LL.length + 1) d9 1 (by omega) (by omega) W
    rw [hA10]
    simpa using h
  have HRL := Lib.hid (show RdW w10 A10 LL from by
    rw [hA10]
    by_cases hd : d9 = 1
    · have hl := HQ.out.2.2.2.1
      have : LL = [] := List.eq_nil_of_length_eq_zero (by omega)
      subst this
      intro j p hp
      simp at hp
    · rw [if_neg hd]
      exact hR9.tail ad rfl)
  have HLD := Lib.hid (show LL.length ≤ d9 - 1 from by have := HQ.out.2.2.2.1; omega)
  clear hA10 hR9
  have HBF := Lib.hid (bel_trans HB.out (bel_trans HB7.out (bel_trans HBZ.out hb10)))
  have HSAME := Lib.hid (same12_any LL B7 A10 d7 (d9 - 1) w10 (Nat.le_trans HLL.out (by decide)) (HT7.out.2.2.later (bel_trans HBZ.out hb10)) HT7.out.2.1 HRL.out HLD.out)
  have hbl : (LL.length : Int) ≤ 9000000000000000017 := by have := HLL.out; omega
  have hpl : 0 < LL.length + 1 := by omega
  have hpl2 : (0 : Int) < ((LL.length + 1 : Nat) : Int) := by omega
  clear hb10
  go_wp2_with (fail)
  refine HSAME.out.mono ?_
  rintro e w11 ⟨rfl, hb11⟩
  have HBG := Lib.hid (bel_trans HBF.out hb11)
  clear hb11
  go_wp2_with (fail)
  go_ret
  exact ⟨by simp, HBG.out⟩
end Go.Proofs.Ytbhagjhhgmmcgaa
