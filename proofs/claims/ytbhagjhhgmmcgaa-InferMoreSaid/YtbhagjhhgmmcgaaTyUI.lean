/- The walk of infer.Call. -/
import Derived.Test.YtbhagjhhgmmcgaaTyUK
import Derived.Sort.CutIn
namespace Go.Proofs.Ytbhagjhhgmmcgaa
open Go.RowKit PRef Go.Proofs.YtbhagjhhgmmcgaaW.PrintWords Go.Shelf
set_option linter.unusedVariables false
set_option linter.unusedSimpArgs false
attribute [local go_sem] Oper.semAt_some

theorem sizeFun : (Try.prog.info? 58).map (·.size) = some 8 := by kernel_rfl
theorem cell_at {W : World} {b : Nat} {cs : Array Value} {t : TypeId} {f : Nat × Nat} (h : W.heap[b]? = some (.cells cs t f)) (j : Nat) (v : Value) (hv : cs[j]? = some v) : W.cell? ⟨b, j, none⟩ = some v := (blk_cell h j).trans hv
theorem rd_getD (l : List Ty) (k : Nat) : rd_T29 l (k : Int) = l.getD k zTy := rfl
def scCs (a : ScA) (W : List Ifc) (B : List Ty) : Array Value := #[.slice a.AW W.length a.cW, .slice a.AI a.nI a.cI, .slice a.AN a.nN a.cN, .slice a.AB B.length a.cB, .slice a.AV a.nV a.cV]
structure FnA where
  A1 : Option Addr
  c1 : Nat
  A2 : Option Addr
  c2 : Nat
  A7 : Option Addr
  c7 : Nat
def fnCs (b : FnA) (f : Fun) : Array Value := #[.string f.f0, .slice b.A1 f.f1.length b.c1, .slice b.A2 f.f2.length b.c2, .int .i64 f.f3.f0, .string f.f3.f1, .string f.f3.f2, .int .i64 f.f3.f3, .slice b.A7 f.f3.f4.length b.c7]
structure FnC (b : FnA) (f : Fun) (w : World) : Prop where
  b_ : Kd.C kTy w b.A1 f.f1.length f.f1
  bc : f.f1.length ≤ b.c1
  p_ : Kd.C kTy w b.A2 f.f2.length f.f2
  pc : f.f2.length ≤ b.c2
  r_ : Kd.C kTy w b.A7 f.f3.f4.length f.f3.f4
  rc : f.f3.f4.length ≤ b.c7
theorem FnC.later {b : FnA} {f : Fun} {w w' : World} (h : FnC b f w) (hb : Below w.heap.size w w') : FnC b f w' := ⟨Kd.C_below h.b_ hb, h.bc, Kd.C_below h.p_ hb, h.pc, Kd.C_below h.r_ hb, h.rc⟩

theorem fn_cells {W : World} {b : FnA} {f : Fun} {g : Nat} {t : TypeId} {fr : Nat × Nat} (h : W.heap[g]? = some (.cells (fnCs b f) t fr)) : W.cell? ⟨g, 1, none⟩ = some (.slice b.A1 f.f1.length b.c1) ∧ W.cell? ⟨g, 2, none⟩ = some (.slice b.A2 f.f2.length b.c2) ∧ W.cell? ⟨g, 3, none⟩ = some (.int .i64 f.f3.f0) ∧ W.cell? ⟨g, 4, none⟩ = some (.string f.f3.f1) ∧ W.cell? ⟨g, 5, none⟩ = some (.string f.f3.f2) ∧ W.cell? ⟨g, 6, none⟩ = some (.int .i64 f.f3.f3) ∧ W.cell? ⟨g, 7, none⟩ = some (.slice b.A7 f.f3.f4.length b.c7) :=
  ⟨cell_at h 1 _ rfl, cell_at h 2 _ rfl, cell_at h 3 _ rfl, cell_at h 4 _ rfl, cell_at h 5 _ rfl, cell_at h 6 _ rfl, cell_at h 7 _ rfl⟩
theorem sc_cells {W : World} {a : ScA} {l : List Ifc} {m : List Ty} {g : Nat} {t : TypeId} {fr : Nat × Nat} (h : W.heap[g]? = some (.cells (scCs a l m) t fr)) : W.cell? ⟨g, 0, none⟩ = some (.slice a.AW l.length a.cW) ∧ W.cell? ⟨g, 1, none⟩ = some (.slice a.AI a.nI a.cI) ∧ W.cell? ⟨g, 2, none⟩ = some (.slice a.AN a.nN a.cN) ∧ W.cell? ⟨g, 3, none⟩ = some (.slice a.AB m.length a.cB) ∧ W.cell? ⟨g, 4, none⟩ = some (.slice a.AV a.nV a.cV) :=
  ⟨cell_at h 0 _ rfl, cell_at h 1 _ rfl, cell_at h 2 _ rfl, cell_at h 3 _ rfl, cell_at h 4 _ rfl⟩
theorem ty_cells {W : World} {x : Ty} {A : Option Addr} {c g : Nat} {t : TypeId} {fr : Nat × Nat} (h : W.heap[g]? = some (.cells #[.int .i64 x.f0, .string x.f1, .string x.f2, .int .i64 x.f3, .slice A x.f4.length c] t fr)) : W.cell? ⟨g, 0, none⟩ = some (.int .i64 x.f0) ∧ W.cell? ⟨g, 1, none⟩ = some (.string x.f1) ∧ W.cell? ⟨g, 2, none⟩ = some (.string x.f2) ∧ W.cell? ⟨g, 3, none⟩ = some (.int .i64 x.f3) ∧ W.cell? ⟨g, 4, none⟩ = some (.slice A x.f4.length c) :=
  ⟨cell_at h 0 _ rfl, cell_at h 1 _ rfl, cell_at h 2 _ rfl, cell_at h 3 _ rfl, cell_at h 4 _ rfl⟩
theorem one_cell {W : World} {v : Value} {g : Nat} {t : TypeId} {fr : Nat × Nat} (h : W.heap[g]? = some (.cells #[v] t fr)) : W.cell? ⟨g, 0, none⟩ = some v := cell_at h 0 _ rfl
/-- Where the call stands between its parts: its boxes, what is wrong so far. -/
structure CSt (w : World) (sc fn : Array Value) (g : Nat) (AT : Option Addr) (ts : List Ty) (cT : Nat) (l : List Wr) (v : Value) (W : World) : Prop where
  sc : W.heap[w.heap.size]? = some (.cells sc 27 (0, 0))
  fn : W.heap[w.heap.size + 1]? = some (.cells fn 58 (0, 0))
  rs : W.heap[w.heap.size + 1 + 1]? = some (.cells #[.int .i64 0, .string ⟨#[]⟩, .string ⟨#[]⟩, .int .i64 0, .slice none 0 0] 29 (0, 0))
  ty : W.heap[g]? = some (.cells #[.slice AT ts.length cT] 24 (0, 0))
  ob : W.heap[g + 1]? = some (.cells #[v] 60 (0, 0))
  ft : Kd.F kTy W (fun b => w.heap.size + 3 ≤ b ∧ b < g) AT ts.length ts
  ow : Wrs W (g + 2) v l
  bel : Below w.heap.size w W
  lo : w.heap.size + 3 ≤ g
  hi : g + 2 ≤ W.heap.size
theorem CSt.below {w : World} {sc fn : Array Value} {g : Nat} {AT : Option Addr} {ts : List Ty} {cT : Nat} {l : List Wr} {v : Value} {W W' : World} (h : CSt w sc fn g AT ts cT l v W) (hb : Below W.heap.size W W') : CSt w sc fn g AT ts cT l v W' :=
  ⟨blk_later hb h.sc, blk_later hb h.fn, blk_later hb h.rs, blk_later hb h.ty, blk_later hb h.ob, Kd.F_below h.ft hb, h.ow.below hb, h.bel.trans (hb.mono h.bel.size), h.lo, Nat.le_trans h.hi hb.size⟩
/-- One entry more: appended, and stored into its box. -/
theorem CSt.app {w : World} {sc fn : Array Value} {g : Nat} {AT : Option Addr} {ts : List Ty} {cT : Nat} {l : List Wr} {v : Value} {W W' : World} (h : CSt w sc fn g AT ts cT l v W) (p : Wr) {n gg cap : Nat} (hn : n = l.length)
    (ho : W'.ownsRow (g + 2) 66 2 (.slice (some ⟨gg, 0, none⟩) (n + 1) cap) (n + 1) (l.flatMap wrC ++ wrC p)) (hg : W.grownBy W' v.ownBlock) :
    CSt w sc fn g AT ts cT (l ++ [p]) (.slice (some ⟨gg, 0, none⟩) (n + 1) cap) (W'.setCell ⟨g + 1, 0, none⟩ (.slice (some ⟨gg, 0, none⟩) (n + 1) cap)) := by
  have lo := h.lo
  have hi := h.hi
  have hob := h.ow.boxed hg h.ob (by omega)
  refine ⟨?_, ?_, ?_, ?_, (blk_set hob 0 _).trans rfl, ?_, Wrs.set (Wrs.app p hn ho) (by omega), ?_, lo, ?_⟩
  · rw [blk_far _ _ _ _ _ (by omega)]; exact h.ow.boxed hg h.sc (by omega)
  · rw [blk_far _ _ _ _ _ (by omega)]; exact h.ow.boxed hg h.fn (by omega)
  · rw [blk_far _ _ _ _ _ (by omega)]; exact h.ow.boxed hg h.rs (by omega)
  · rw [blk_far _ _ _ _ _ (by omega)]; exact h.ow.boxed hg h.ty (by omega)
  · refine Kd.F_step (Kd.F_grown h.ft hg (fun k hk e => ?_)) (fun k hk _ => blk_far _ _ _ _ _ (by omega))
    have := own_base h.ow k e.symm
    omega
  · exact (h.ow.bel hg h.bel (by omega) (by omega)).setCell (by simp only; omega) _
  · have := hg.size
    simp
    omega
theorem CSt.set {w : World} {sc fn : Array Value} {g : Nat} {AT : Option Addr} {ts : List Ty} {cT : Nat} {l : List Wr} {v : Value} {W : World} (h : CSt w sc fn g AT ts cT l v W) (b j : Nat) (u : Value) (hb : g + 2 ≤ b) (hv : ∀ k, v.ownBlock = some k → k ≠ b) : CSt w sc fn g AT ts cT l v (W.setCell ⟨b, j, none⟩ u) := by
  have lo := h.lo
  refine ⟨?_, ?_, ?_, ?_, ?_, ?_, ?_, h.bel.setCell (by simp only; omega) _, lo, by simpa using h.hi⟩
  · rw [blk_far _ _ _ _ _ (by omega)]; exact h.sc
  · rw [blk_far _ _ _ _ _ (by omega)]; exact h.fn
  · rw [blk_far _ _ _ _ _ (by omega)]; exact h.rs
  · rw [blk_far _ _ _ _ _ (by omega)]; exact h.ty
  · rw [blk_far _ _ _ _ _ (by omega)]; exact h.ob
  · exact Kd.F_step h.ft (fun k hk _ => blk_far _ _ _ _ _ (by omega))
  · exact own_kept h.ow fun k hk => blk_far _ _ _ _ _ (hv k hk)

theorem wr_news (W : World) (p : Wr) : ∀ j u, (wrC p)[j]? = some u → (W.alloc (.cells #[.int .i64 p.1, .int .i64 p.2] 66)).cell? ((⟨W.heap.size, 0, none⟩ : Addr).add j) = some u := by
  intro j u hu
  rw [Addr.add_lit, Nat.zero_add, blk_cell (blk_new W _) j]
  simpa [wrC] using hu
/-- At the append of one more. -/
theorem CSt.append {w : World} {sc fn : Array Value} {g : Nat} {AT : Option Addr} {ts : List Ty} {cT : Nat} {l : List Wr} {v : Value} {W : World} {F : Fence} {nF : Nat} {ops : Array Oper} {rest : List Oper} {o : Oper} {act : Act} {Q : Exit → Act → World → Prop} (hgd : o.guard = none) (s x : Operand)
    (ho : o.op = .call { callee := .builtin .append, args := #[s, x], argTypes := #[60, 60] }) (h : CSt w sc fn g AT ts cT l v W) (p : Wr) (hl : l.length ≤ 5000) (N : Nat) (hN : W.heap.size = N) (hs : act.eval s = v) (hx : act.eval x = .slice (some ⟨N, 0, none⟩) 1 1)
    (hk : ∀ gg cap w', Hid (w'.heap[g + 1]? = some (.cells #[v] 60 (0, 0))) → Hid (CSt w sc fn g AT ts cT (l ++ [p]) (.slice (some ⟨gg, 0, none⟩) (l.length + 1) cap) (w'.setCell ⟨g + 1, 0, none⟩ (.slice (some ⟨gg, 0, none⟩) (l.length + 1) cap))) → Hid ((W.alloc (.cells #[.int .i64 p.1, .int .i64 p.2] 66)).grownBy w' v.ownBlock) → Hid (v.ownBlock = some gg ∨ W.heap.size ≤ gg) →
      wpListIn F nF Try.prog ops Q rest (act.put o.dst (.slice (some ⟨gg, 0, none⟩) (l.length + 1) cap)) w') :
    wpListIn F nF Try.prog ops Q (o :: rest) act (W.alloc (.cells #[.int .i64 p.1, .int .i64 p.2] 66)) := by
  obtain ⟨i0, hi, hz0, hz1, hz2⟩ := info_parts infoWr
  have h2 := h.below (bel_alloc (Below.refl W.heap.size W) (.cells #[.int .i64 p.1, .int .i64 p.2] 66))
  subst hN
  refine wpListIn_append_own_at _ hgd s x 60 ho (g + 2) 66 i0 _ 2 16 Try.underlying60 hi hz0 hz1 hz2 rfl (by decide) v l.length (l.flatMap wrC) hs h2.ow ⟨W.heap.size, 0, none⟩ 1 1 (wrC p) hx rfl (wr_news W p) (by intro u hu; simp [wrC] at hu; rcases hu with rfl | rfl <;> rfl) (by unfold maxLen; omega) (by omega) h2.hi ?_
  intro v' w' hown hgrow _ hat
  obtain ⟨gg, cap, rfl⟩ := ownsRow_succ hown
  exact hk gg cap w' (Lib.hid (h2.ow.boxed hgrow h2.ob (by omega))) (Lib.hid (h2.app p rfl hown hgrow)) (Lib.hid hgrow) (Lib.hid (by
    rcases hat with h | h
    · exact .inl h.symm
    · have : gg = (W.alloc (.cells #[.int .i64 p.1, .int .i64 p.2] 66)).heap.size := by simpa [Value.ownBlock] using h
      right
      rw [this]
      simp))

theorem cst_start {w W3 w1 : World} {sc fn : Array Value} {AT : Option Addr} {ts : List Ty} {cT : Nat} (h0 : W3.heap[w.heap.size]? = some (.cells sc 27 (0, 0))) (h1 : W3.heap[w.heap.size + 1]? = some (.cells fn 58 (0, 0))) (h2 : W3.heap[w.heap.size + 1 + 1]? = some (.cells #[.int .i64 0, .string ⟨#[]⟩, .string ⟨#[]⟩, .int .i64 0, .slice none 0 0] 29 (0, 0)))
    (hs : W3.heap.size = w.heap.size + 3) (hb : Below w.heap.size w W3) (hb1 : Below W3.heap.size W3 w1) (hF : Kd.F kTy w1 (fun b => W3.heap.size ≤ b) AT ts.length ts) :
    CSt w sc fn w1.heap.size AT ts cT [] (.slice none 0 0) ((w1.alloc (.cells #[.slice AT ts.length cT] 24)).alloc (.cells #[.slice none 0 0] 60)) := by
  have hb2 : Below w1.heap.size w1 ((w1.alloc (.cells #[.slice AT ts.length cT] 24)).alloc (.cells #[.slice none 0 0] 60)) := bel_alloc (bel_alloc (Below.refl _ _) _) _
  have hb3 := bel_trans hb1 hb2
  refine ⟨blk_later hb3 h0, blk_later hb3 h1, blk_later hb3 h2, blk_alloc (blk_new w1 _) _, ?_, ?_, Wrs.nil _ _, bel_trans hb hb3, by have := hb1.size; omega, by simp⟩
  · simpa using blk_new (w1.alloc (.cells #[.slice AT ts.length cT] 24)) (.cells #[.slice none 0 0] 60)
  · exact Kd.F_below (Kd.F_mono (Kd.F_bound hF) (fun b hb => ⟨by omega, hb.2⟩)) hb2

/-- What the pairs so far have told to be wrong: of those whose places are given. -/
def badP (W : List Ifc) (B types ps qs : List Ty) (i : Nat) : Bool := !assignP W B (qs.getD i zTy) (substT types (ps.getD i zTy))
def badL' (bad : Nat → Bool) : Nat → List Nat → List Wr
  | _, [] => []
  | n, x :: r => (if bad x then [((n : Int), 11)] else []) ++ badL' bad (n + 1) r
theorem badL_snoc (bad : Nat → Bool) (x : Nat) : ∀ (n : Nat) (l : List Nat), badL' bad n (l ++ [x]) = badL' bad n l ++ (if bad x then [(((n + l.length : Nat) : Int), 11)] else [])
  | n, [] => by simp [badL']
  | n, y :: r => by
    rw [List.cons_append, badL', badL', badL_snoc bad x (n + 1) r, List.append_assoc, List.length_cons, show n + 1 + r.length = n + (r.length + 1) by omega]
theorem badL_len (bad : Nat → Bool) : ∀ (n : Nat) (l : List Nat), (badL' bad n l).length ≤ l.length
  | n, [] => by simp [badL']
  | n, y :: r => by
    rw [badL', List.length_append, List.length_cons]
    have := badL_len bad (n + 1) r
    split <;> simp <;> omega
theorem badL_range (W : List Ifc) (B types ps qs : List Ty) : ∀ k : Nat, badL' (badP W B types ps qs) 0 (List.range k) = callP W B types ps qs k
  | 0 => by simp [badL', callP]
  | k + 1 => by
    rw [range_snoc, badL_snoc, badL_range W B types ps qs k, callP_succ, List.length_range, Nat.zero_add]
    unfold badP
    cases assignP W B (qs.getD k zTy) (substT types (ps.getD k zTy)) <;> rfl
/-- Between two rounds. -/
structure CallI (w : World) (sc fn : Array Value) (g : Nat) (AT : Option Addr) (ts : List Ty) (cT gi : Nat) (pv qv : Value) (L : List Wr) (bad : Nat → Bool) (pre : List Nat) (W : World) : Prop where
  st : ∃ v, CSt w sc fn g AT ts cT (L ++ badL' bad 0 pre) v W
  ib : W.heap[gi]? = some (.cells #[.int .i64 (pre.length : Int)] 3 (0, 0))
  pb : W.heap[gi + 1]? = some (.cells #[pv] 24 (0, 0))
  qb : W.heap[gi + 1 + 1]? = some (.cells #[qv] 24 (0, 0))
theorem Wrs.cells {w : World} {base k : Nat} {v : Value} {l : List Wr} (h : Wrs w base v l) (hk : v.ownBlock = some k) : ∃ cs, w.heap[k]? = some (.cells cs 66 (0, 0)) := by
  rcases h.2 with ⟨rfl, _⟩ | ⟨g, cap, cur, rfl, _, hg, _⟩
  · simp [Value.ownBlock] at hk
  · have e : g = k := by simpa [Value.ownBlock] using hk
    subst e
    exact ⟨cur, hg⟩
theorem CSt.own {w : World} {sc fn : Array Value} {g : Nat} {AT : Option Addr} {ts : List Ty} {cT : Nat} {l : List Wr} {v : Value} {W W' : World} {Bn : Nat} {row : Option Nat} (h : CSt w sc fn g AT ts cT l v W) (hg : W.grownBy W' row) (hr : ∀ r, row = some r → Bn ≤ r ∧ ∃ o : Obj, W.heap[r]? = some o ∧ o.isCells = false) (hB : g ≤ Bn) :
    CSt w sc fn g AT ts cT l v W' := by
  have lo := h.lo
  refine ⟨cells_kept hg hr h.sc, cells_kept hg hr h.fn, cells_kept hg hr h.rs, cells_kept hg hr h.ty, cells_kept hg hr h.ob, Kd.F_grown h.ft hg (fun k hk e => by have := (hr k e.symm).1; omega), own_kept h.ow (fun k hk => ?_), below_kept hg hr (by omega) h.bel.size h.bel, lo, Nat.le_trans h.hi hg.size⟩
  obtain ⟨cs, hcs⟩ := h.ow.cells hk
  exact (cells_kept hg hr hcs).trans hcs.symm
theorem callI_own {w : World} {sc fn : Array Value} {g : Nat} {AT : Option Addr} {ts : List Ty} {cT gi : Nat} {pv qv : Value} {L : List Wr} {bad : Nat → Bool} {Bn : Nat} (hB : g ≤ Bn) : OwnFrom Bn (CallI w sc fn g AT ts cT gi pv qv L bad) := by
  intro pre W W' row h hg hr
  obtain ⟨v, hv⟩ := h.st
  exact ⟨⟨v, hv.own hg hr hB⟩, cells_kept hg hr h.ib, cells_kept hg hr h.pb, cells_kept hg hr h.qb⟩
theorem CallI.later {w : World} {sc fn : Array Value} {g : Nat} {AT : Option Addr} {ts : List Ty} {cT gi : Nat} {pv qv : Value} {L : List Wr} {bad : Nat → Bool} {pre : List Nat} {W W' : World} (h : CallI w sc fn g AT ts cT gi pv qv L bad pre W) (hb : Below W.heap.size W W') : CallI w sc fn g AT ts cT gi pv qv L bad pre W' := by
  obtain ⟨v, hv⟩ := h.st
  exact ⟨⟨v, hv.below hb⟩, blk_later hb h.ib, blk_later hb h.pb, blk_later hb h.qb⟩
structure CallAx (va vb : Nat → Value) (lo : Nat) (F : Nat → Nat → Nat → Act) (x : Nat) (a : Act) (W : World) : Prop where
  ex : ∃ q r : Nat, lo < q ∧ lo < r ∧ W.heap[q]? = some (.cells (tyCs (va x)) 29 (0, 0)) ∧ W.heap[r]? = some (.cells (tyCs (vb x)) 29 (0, 0)) ∧ a = F x q r
theorem callAx_own (va vb : Nat → Value) (lo : Nat) (F : Nat → Nat → Nat → Act) (x : Nat) (a : Act) (n₀ : Nat) : OwnFrom n₀ (fun (_ : Unit) W => CallAx va vb lo F x a W) := by
  intro _ W W' row h hg hr
  obtain ⟨q, r, h0, h0', h1, h2, h3⟩ := h.ex
  exact ⟨q, r, h0, h0', cells_kept hg hr h1, cells_kept hg hr h2, h3⟩
/-- A round's end: v was the list of what is wrong, Wm stands ahead of the last store. -/
theorem call_round {w W Wm : World} {sc fn : Array Value} {g : Nat} {AT : Option Addr} {ts : List Ty} {cT gi n₀ : Nat} {pv qv v v' : Value} {L l' : List Wr} {bad : Nat → Bool} {pre : List Nat} {x : Nat}
    (hI : CallI w sc fn g AT ts cT gi pv qv L bad pre W) (h0 : CSt w sc fn g AT ts cT (L ++ badL' bad 0 pre) v W) (hC : CSt w sc fn g AT ts cT l' v' Wm) (hl : l' = (L ++ badL' bad 0 pre) ++ (if bad x then [((pre.length : Int), 11)] else []))
    (hk : Keeps W Wm (fun k => k = g + 1 ∨ v.ownBlock = some k)) (hv : ∀ k, v'.ownBlock = some k → v.ownBlock = some k ∨ W.heap.size ≤ k) (hgi : g + 2 ≤ gi) (hn : n₀ = gi + 3) :
    KeepsFrom n₀ W (Wm.setCell ⟨gi, 0, none⟩ (.int .i64 ((pre.length : Int) + 1))) ∧ KS n₀ (fun k => g + 1 ≤ k ∧ k < gi + 1) W (Wm.setCell ⟨gi, 0, none⟩ (.int .i64 ((pre.length : Int) + 1))) ∧ CallI w sc fn g AT ts cT gi pv qv L bad (pre ++ [x]) (Wm.setCell ⟨gi, 0, none⟩ (.int .i64 ((pre.length : Int) + 1))) := by
  subst hn
  have hnv : ∀ (k : Nat) (cs : Array Value) (t : TypeId) (f : Nat × Nat), W.heap[k]? = some (.cells cs t f) → t ≠ 66 → v.ownBlock ≠ some k := by
    intro k cs t f hb ht e
    obtain ⟨cs', hcs⟩ := h0.ow.cells e
    rw [hb] at hcs
    injection hcs with hcs
    injection hcs with _ h2 _
    exact ht h2
  have hib := hI.ib
  have hpb := hI.pb
  have hqb := hI.qb
  have nib := hnv _ _ _ _ hib (by decide)
  have npb := hnv _ _ _ _ hpb (by decide)
  have nqb := hnv _ _ _ _ hqb (by decide)
  have bib : Wm.heap[gi]? = some (.cells #[.int .i64 (pre.length : Int)] 3 (0, 0)) := Keeps.blk hk hib (fun h => by rcases h with h | h; omega; exact nib h)
  have bpb : Wm.heap[gi + 1]? = some (.cells #[pv] 24 (0, 0)) := Keeps.blk hk hpb (fun h => by rcases h with h | h; omega; exact npb h)
  have bqb : Wm.heap[gi + 1 + 1]? = some (.cells #[qv] 24 (0, 0)) := Keeps.blk hk hqb (fun h => by rcases h with h | h; omega; exact nqb h)
  have hk2 : Keeps W (Wm.setCell ⟨gi, 0, none⟩ (.int .i64 ((pre.length : Int) + 1))) (fun k => k = gi ∨ k = g + 1 ∨ v.ownBlock = some k) := Keeps.set (Keeps.mono hk (fun k _ h => .inr h)) _ _ _ (.inl (.inl rfl))
  refine ⟨⟨hk2.size, fun k o hB hko ho => Keeps.blk hk2 hko ?_⟩, Keeps.mono hk2 (fun k _ h => ?_), ⟨v', ?_⟩, ?_, ?_, ?_⟩
  · rintro (h | h | h)
    · omega
    · omega
    · obtain ⟨cs, hcs⟩ := h0.ow.cells h
      rw [hko] at hcs
      injection hcs with hcs
      subst hcs
      cases ho
  · rcases h with rfl | rfl | h
    · exact .inl (by omega)
    · exact .inl (by omega)
    · have h1 := own_base h0.ow k h
      have h2 : k ≠ gi + 1 := fun e => by subst e; exact npb h
      have h3 : k ≠ gi + 1 + 1 := fun e => by subst e; exact nqb h
      omega
  · rw [badL_snoc, Nat.zero_add, ← List.append_assoc, ← hl]
    refine hC.set gi 0 _ hgi (fun k hkv e => ?_)
    subst e
    rcases hv _ hkv with h | h
    · exact nib h
    · have := blk_lt hib
      omega
  · rw [List.length_append, List.length_singleton]
    exact (blk_set bib 0 _).trans rfl
  · rw [blk_far _ _ _ _ _ (by omega)]; exact bpb
  · rw [blk_far _ _ _ _ _ (by omega)]; exact bqb
theorem call_end {n : Nat} {R : Ending → World → Prop} {a : Act} {W : World} {D Bx : Nat} {v : Value} {cs : Array Value} (hB : W.heap[Bx]? = some (.cells cs 29 (0, 0))) (hsz : cs.size = 5) (hK : W.heap[D]? = some (.deferred (some [])))
    (hp : a.tmps.getD 6 undef = .pointer (some ⟨Bx, 0, none⟩)) (hv : a.tmps.getD 7 undef = v) (hd : a.defers = [{ target := Target.collected D, args := #[] }])
    (hQ : R (.returned (.tuple #[.agg cs, v])) (W.putObj D (.deferred none))) :
    bodyPostM Fence.wide n Try.prog Try.f43 R .ret a W := by
  have hne : Bx ≠ D := by
    rintro rfl
    rw [hB] at hK
    cases hK
  have hB' : (W.putObj D (.deferred none)).heap[Bx]? = some (.cells cs 29 (0, 0)) :=
    ((grownBy_putObj' W D (.deferred none)).block Bx (lt_of_heap hB) (fun e => hne (by injection e))).trans hB
  show LeavesInM Fence.wide n Try.prog Try.f43 a.tmps R a.defers .returning W
  rw [hd]
  refine ⟨by simp, .inl ⟨_, _, rfl, run_takeDeferred hK, ?_⟩⟩
  refine ⟨_, (results_cell_tmp (p := 6) (u := 7) (ty := 29) rfl a.tmps Try.prog _).trans ?_, hQ⟩
  rw [hp, hv]
  have h3 := run_loadVar_row (P := Try.prog) _ Bx 29 29 cs (0, 0) _ hB' Try.underlying29 rfl (by rw [hsz]; exact sizeTy.trans rfl)
  simp only [asAddr, Sem.run_pure, Result.andThen_ok, h3]

theorem Wrs.lower {w : World} {base b2 : Nat} {v : Value} {l : List Wr} (h : Wrs w base v l) (hb : b2 ≤ base) : Wrs w b2 v l := by
  refine ⟨h.1, ?_⟩
  rcases h.2 with h1 | ⟨g, cap, cur, e, hg, rest⟩
  · exact .inl h1
  · exact .inr ⟨g, cap, cur, e, Nat.le_trans hb hg, rest⟩
theorem chain_far (W5 : World) (b0 : Nat) (TT : Ty) (A5 : Option Addr) (c5 : Nat) (b : Nat) (hb : b ≠ b0) : (((((W5.setCell ⟨b0, 0, none⟩ (.int .i64 TT.f0)).setCell ⟨b0, 1, none⟩ (.string TT.f1)).setCell ⟨b0, 2, none⟩ (.string TT.f2)).setCell ⟨b0, 3, none⟩ (.int .i64 TT.f3)).setCell ⟨b0, 4, none⟩ (.slice A5 TT.f4.length c5)).heap[b]? = W5.heap[b]? := by
  rw [blk_far _ _ _ _ _ hb, blk_far _ _ _ _ _ hb, blk_far _ _ _ _ _ hb, blk_far _ _ _ _ _ hb, blk_far _ _ _ _ _ hb]
theorem fin_cells {w W5 : World} {sc fn : Array Value} {g : Nat} {AT : Option Addr} {ts : List Ty} {cT : Nat} {l : List Wr} {v : Value} (h : CSt w sc fn g AT ts cT l v W5) (TT : Ty) (A5 : Option Addr) (c5 : Nat) : W5.cell? ⟨w.heap.size + 1 + 1, 0, none⟩ = some (.int .i64 0) ∧ W5.cell? ⟨w.heap.size + 1 + 1, 1, none⟩ = some (.string ⟨#[]⟩) ∧ W5.cell? ⟨w.heap.size + 1 + 1, 2, none⟩ = some (.string ⟨#[]⟩) ∧ W5.cell? ⟨w.heap.size + 1 + 1, 3, none⟩ = some (.int .i64 0) ∧ W5.cell? ⟨w.heap.size + 1 + 1, 4, none⟩ = some (.slice none 0 0) ∧
    W5.frozen? ⟨w.heap.size + 1 + 1, 0, none⟩ = false ∧ W5.frozen? ⟨w.heap.size + 1 + 1, 1, none⟩ = false ∧ W5.frozen? ⟨w.heap.size + 1 + 1, 2, none⟩ = false ∧ W5.frozen? ⟨w.heap.size + 1 + 1, 3, none⟩ = false ∧ W5.frozen? ⟨w.heap.size + 1 + 1, 4, none⟩ = false ∧ W5.cell? ⟨g + 1, 0, none⟩ = some v ∧ (((((W5.setCell ⟨w.heap.size + 1 + 1, 0, none⟩ (.int .i64 TT.f0)).setCell ⟨w.heap.size + 1 + 1, 1, none⟩ (.string TT.f1)).setCell ⟨w.heap.size + 1 + 1, 2, none⟩ (.string TT.f2)).setCell ⟨w.heap.size + 1 + 1, 3, none⟩ (.int .i64 TT.f3)).setCell ⟨w.heap.size + 1 + 1, 4, none⟩ (.slice A5 TT.f4.length c5)).cell? ⟨g + 1, 0, none⟩ = some v := by
  have lo := h.lo
  exact ⟨cell_at h.rs 0 _ rfl, cell_at h.rs 1 _ rfl, cell_at h.rs 2 _ rfl, cell_at h.rs 3 _ rfl, cell_at h.rs 4 _ rfl, blk_free h.rs 0, blk_free h.rs 1, blk_free h.rs 2, blk_free h.rs 3, blk_free h.rs 4, one_cell h.ob, one_cell ((chain_far W5 _ TT A5 c5 (g + 1) (by omega)).trans h.ob)⟩
theorem call_fin {w W5 : World} {sc fn : Array Value} {g : Nat} {AT : Option Addr} {ts : List Ty} {cT : Nat} {l : List Wr} {v : Value} (h : CSt w sc fn g AT ts cT l v W5) (TT : Ty) (A5 : Option Addr) (c5 : Nat) {N D : Nat} (hF : Kd.F kTy W5 (fun b => N ≤ b) A5 TT.f4.length TT.f4) (hN : g + 2 ≤ N) (hD : D < N) (hDw : w.heap.size + 3 ≤ D) (hK : W5.heap[D]? = some (.deferred (some []))) :
    (((((W5.setCell ⟨w.heap.size + 1 + 1, 0, none⟩ (.int .i64 TT.f0)).setCell ⟨w.heap.size + 1 + 1, 1, none⟩ (.string TT.f1)).setCell ⟨w.heap.size + 1 + 1, 2, none⟩ (.string TT.f2)).setCell ⟨w.heap.size + 1 + 1, 3, none⟩ (.int .i64 TT.f3)).setCell ⟨w.heap.size + 1 + 1, 4, none⟩ (.slice A5 TT.f4.length c5)).heap[w.heap.size + 1 + 1]? = some (.cells #[.int .i64 TT.f0, .string TT.f1, .string TT.f2, .int .i64 TT.f3, .slice A5 TT.f4.length c5] 29 (0, 0)) ∧ (((((W5.setCell ⟨w.heap.size + 1 + 1, 0, none⟩ (.int .i64 TT.f0)).setCell ⟨w.heap.size + 1 + 1, 1, none⟩ (.string TT.f1)).setCell ⟨w.heap.size + 1 + 1, 2, none⟩ (.string TT.f2)).setCell ⟨w.heap.size + 1 + 1, 3, none⟩ (.int .i64 TT.f3)).setCell ⟨w.heap.size + 1 + 1, 4, none⟩ (.slice A5 TT.f4.length c5)).heap[D]? = some (.deferred (some [])) ∧ Kd.F kTy ((((((W5.setCell ⟨w.heap.size + 1 + 1, 0, none⟩ (.int .i64 TT.f0)).setCell ⟨w.heap.size + 1 + 1, 1, none⟩ (.string TT.f1)).setCell ⟨w.heap.size + 1 + 1, 2, none⟩ (.string TT.f2)).setCell ⟨w.heap.size + 1 + 1, 3, none⟩ (.int .i64 TT.f3)).setCell ⟨w.heap.size + 1 + 1, 4, none⟩ (.slice A5 TT.f4.length c5)).putObj D (.deferred none)) (fun b => w.heap.size ≤ b) A5 TT.f4.length TT.f4 ∧ Wrs ((((((W5.setCell ⟨w.heap.size + 1 + 1, 0, none⟩ (.int .i64 TT.f0)).setCell ⟨w.heap.size + 1 + 1, 1, none⟩ (.string TT.f1)).setCell ⟨w.heap.size + 1 + 1, 2, none⟩ (.string TT.f2)).setCell ⟨w.heap.size + 1 + 1, 3, none⟩ (.int .i64 TT.f3)).setCell ⟨w.heap.size + 1 + 1, 4, none⟩ (.slice A5 TT.f4.length c5)).putObj D (.deferred none)) w.heap.size v l ∧ Below w.heap.size w ((((((W5.setCell ⟨w.heap.size + 1 + 1, 0, none⟩ (.int .i64 TT.f0)).setCell ⟨w.heap.size + 1 + 1, 1, none⟩ (.string TT.f1)).setCell ⟨w.heap.size + 1 + 1, 2, none⟩ (.string TT.f2)).setCell ⟨w.heap.size + 1 + 1, 3, none⟩ (.int .i64 TT.f3)).setCell ⟨w.heap.size + 1 + 1, 4, none⟩ (.slice A5 TT.f4.length c5)).putObj D (.deferred none)) := by
  have lo := h.lo
  have hbe : Below w.heap.size w (((((W5.setCell ⟨w.heap.size + 1 + 1, 0, none⟩ (.int .i64 TT.f0)).setCell ⟨w.heap.size + 1 + 1, 1, none⟩ (.string TT.f1)).setCell ⟨w.heap.size + 1 + 1, 2, none⟩ (.string TT.f2)).setCell ⟨w.heap.size + 1 + 1, 3, none⟩ (.int .i64 TT.f3)).setCell ⟨w.heap.size + 1 + 1, 4, none⟩ (.slice A5 TT.f4.length c5)) := by
    iterate 5 refine Below.setCell ?_ (by simp only; omega) _
    exact h.bel
  have hfar := chain_far W5 (w.heap.size + 1 + 1) TT A5 c5
  have hrs := (blk_set (blk_set (blk_set (blk_set (blk_set h.rs 0 (.int .i64 TT.f0)) 1 (.string TT.f1)) 2 (.string TT.f2)) 3 (.int .i64 TT.f3)) 4 (.slice A5 TT.f4.length c5)).trans rfl
  generalize (((((W5.setCell ⟨w.heap.size + 1 + 1, 0, none⟩ (.int .i64 TT.f0)).setCell ⟨w.heap.size + 1 + 1, 1, none⟩ (.string TT.f1)).setCell ⟨w.heap.size + 1 + 1, 2, none⟩ (.string TT.f2)).setCell ⟨w.heap.size + 1 + 1, 3, none⟩ (.int .i64 TT.f3)).setCell ⟨w.heap.size + 1 + 1, 4, none⟩ (.slice A5 TT.f4.length c5)) = Wf at *
  have hKf : Wf.heap[D]? = some (.deferred (some [])) := (hfar D (by omega)).trans hK
  have hput : ∀ b, b ≠ D → (Wf.putObj D (.deferred none)).heap[b]? = Wf.heap[b]? := fun b hb => World.putObj_heap_other hb
  refine ⟨hrs, hKf, Kd.F_mono (Kd.F_step hF (fun b hb _ => (hput b (by omega)).trans (hfar b (by omega)))) (fun b hb => by omega), ?_, ?_⟩
  · refine Wrs.lower (own_kept h.ow (fun k hk => ?_)) (by omega)
    have hk2 := own_base h.ow k hk
    refine (hput k ?_).trans (hfar k (by omega))
    rintro rfl
    obtain ⟨cs, hcs⟩ := h.ow.cells hk
    rw [hK] at hcs
    cases hcs
  · exact hbe.grown (grownBy_putObj' Wf D _) (by have := hbe.size; omega) (fun k e => by injection e with e; subst e; omega)

set_option maxRecDepth 100000 in
set_option maxHeartbeats 8000000 in
theorem call_any (a : ScA) (W : List Ifc) (B : List Ty) (f : Fun) (b : FnA) (args : List Ty) (AA : Option Addr) (ca : Nat) (w : World) (hW : ScC a W B w) (ok : WOk W) (hF : FnC b f w) (hA : Kd.C kTy w AA args.length args) (lA : args.length ≤ ca)
    (hp : ∀ x ∈ f.f2, TyW x) (ha : ∀ x ∈ args, TyW x) (hr : TyOk f.f3) (hg : f.f2.length * mL f.f2 ≤ 9000000000000000000) (hn : f.f2.length ≤ 1000) :
    Calls Try.prog 43 #[.agg (scCs a W B), .agg (fnCs b f), .slice AA args.length ca] w fun e w' => ∃ A' c' v, e = .returned (.tuple #[tyV (callT f args) A' c', v]) ∧ (callT f args).f4.length ≤ c' ∧ Kd.F kTy w' (fun b => w.heap.size ≤ b) A' (callT f args).f4.length (callT f args).f4 ∧ Wrs w' w.heap.size v (callL W B f args) ∧ Below w.heap.size w w' := by
  refine (callsIn_wide (n := 5)).1 ?_
  obtain ⟨i0, hi, hz0, hz1, hz2⟩ := info_parts infoWr
  have hb3 : Below w.heap.size w (((w.alloc (.cells (scCs a W B) 27)).alloc (.cells (fnCs b f) 58)).alloc (.cells #[.int .i64 0, .string ⟨#[]⟩, .string ⟨#[]⟩, .int .i64 0, .slice none 0 0] 29)) := bel_alloc (bel_alloc (bel_alloc (Below.refl _ _) _) _) _
  have HUN := Lib.hid (unify_any f.f2 args (f.f1.length : Int) b.A2 AA b.c2 ca w (((w.alloc (.cells (scCs a W B) 27)).alloc (.cells (fnCs b f) 58)).alloc (.cells #[.int .i64 0, .string ⟨#[]⟩, .string ⟨#[]⟩, .int .i64 0, .slice none 0 0] 29)) hp ha hg hF.p_ hF.pc hA lA hb3)
  have g0 : (((w.alloc (.cells (scCs a W B) 27)).alloc (.cells (fnCs b f) 58)).alloc (.cells #[.int .i64 0, .string ⟨#[]⟩, .string ⟨#[]⟩, .int .i64 0, .slice none 0 0] 29)).heap[w.heap.size]? = some (.cells (scCs a W B) 27 (0, 0)) := blk_alloc (blk_alloc (blk_new w _) _) _
  have g1 : (((w.alloc (.cells (scCs a W B) 27)).alloc (.cells (fnCs b f) 58)).alloc (.cells #[.int .i64 0, .string ⟨#[]⟩, .string ⟨#[]⟩, .int .i64 0, .slice none 0 0] 29)).heap[w.heap.size + 1]? = some (.cells (fnCs b f) 58 (0, 0)) := blk_alloc (by simpa using blk_new (w.alloc (.cells (scCs a W B) 27)) (.cells (fnCs b f) 58)) _
  have g2 : (((w.alloc (.cells (scCs a W B) 27)).alloc (.cells (fnCs b f) 58)).alloc (.cells #[.int .i64 0, .string ⟨#[]⟩, .string ⟨#[]⟩, .int .i64 0, .slice none 0 0] 29)).heap[w.heap.size + 1 + 1]? = some (.cells #[.int .i64 0, .string ⟨#[]⟩, .string ⟨#[]⟩, .int .i64 0, .slice none 0 0] 29 (0, 0)) := by simpa using blk_new ((w.alloc (.cells (scCs a W B) 27)).alloc (.cells (fnCs b f) 58)) (.cells #[.int .i64 0, .string ⟨#[]⟩, .string ⟨#[]⟩, .int .i64 0, .slice none 0 0] 29)
  have hsz : (((w.alloc (.cells (scCs a W B) 27)).alloc (.cells (fnCs b f) 58)).alloc (.cells #[.int .i64 0, .string ⟨#[]⟩, .string ⟨#[]⟩, .int .i64 0, .slice none 0 0] 29)).heap.size = w.heap.size + 3 := by simp
  have HG0 := Lib.hid g0
  have HG1 := Lib.hid g1
  have HG2 := Lib.hid g2
  have HSZ := Lib.hid hsz
  have HB3 := Lib.hid hb3
  have HUL := Lib.hid (unifyN_len f.f2 args f.f1.length)
  have HUM : Hid (∀ t ∈ unifyN f.f2 args f.f1.length, TyOk t) := Lib.hid (by
    intro t ht
    unfold unifyN at ht
    split at ht
    · unfold unifyL at ht
      obtain ⟨i, _, rfl⟩ := List.mem_map.1 ht
      cases hq : tellL (fun _ => none) f.f2 args (i : Int) with
      | none => exact .mk _ (by decide) (fun x hx => by simp [zTy, z29] at hx)
      | some t => exact (tellL_mem TyW (fun t h => h.sub) f.f2 args (fun _ => none) ha (by simp) _ _ hq).1.ok
    · simp at ht)
  have HFW := Lib.hid hF
  have HWW := Lib.hid hW
  have HAW := Lib.hid hA
  have HPP := Lib.hid (And.intro hp (And.intro hr ok))
  have HLL : Hid (callL W B f args = callA args.length f.f2.length ++ callB W B (unifyN f.f2 args f.f1.length) f.f1 (unifyN f.f2 args f.f1.length).length ++ callP W B (unifyN f.f2 args f.f1.length) f.f2 args (min f.f2.length args.length)) := Lib.hid rfl
  have HTT : Hid (callT f args = substT (unifyN f.f2 args f.f1.length) f.f3) := Lib.hid rfl
  generalize callL W B f args = LL at *
  generalize callT f args = TT at *
  generalize unifyN f.f2 args f.f1.length = ts at *
  have hpm : f.f2.length ≤ 9223372036854775807 := by omega
  have ham : args.length ≤ 9223372036854775807 := hA.2.1
  have hbm : f.f1.length ≤ 9223372036854775807 := hF.b_.2.1
  clear g0 g1 g2 hsz hb3 hF hW hA hp ha hr hg ok
  simp only [scCs, fnCs] at *
  have HFNW := Lib.hid (show FnC b f w from HFW.out)
  have hLA := callA_len args.length f.f2.length
  have hcs : (((args.length : Int) != (f.f2.length : Int)) = false ∧ callA args.length f.f2.length = []) ∨ (((args.length : Int) != (f.f2.length : Int)) = true ∧ callA args.length f.f2.length = [(-1, 12)]) := by
    by_cases hne : args.length = f.f2.length
    · exact .inl ⟨by simp [hne], by unfold callA; rw [if_pos hne]⟩
    · refine .inr ⟨?_, by unfold callA; rw [if_neg hne]⟩
      simp only [bne_iff_ne, ne_eq]
      omega
  have HLA := Lib.hid hLA
  clear hLA
  generalize callA args.length f.f2.length = LA at *
  refine callsIn_of_wp_marks Try.func43 rfl trivial ?_ rfl
  simp only [Try.ntmps43, List.size_toArray, List.length_cons, List.length_nil, Nat.reduceAdd, Nat.reduceSub, Array.replicate_succ, Array.replicate_zero, List.push_toArray, List.append_toArray, List.nil_append, List.cons_append]
  gi_upto_if 28 with (refine ⟨trivial, ?_⟩; gi_at_call 39; refine (callsIn_wide.2 HUN.out).mono ?_; rintro e w1 ⟨AT, cT, rfl, hcT, hfT, hbT⟩; have HST := Lib.hid (cst_start (cT := cT) (sc := scCs a W B) (fn := fnCs b f) HG0.out HG1.out HG2.out HSZ.out HB3.out hbT hfT); have HCT := Lib.hid hcT; obtain ⟨_, n1, _, _, _, _, _⟩ := fn_cells HST.out.fn; have n0 := one_cell HST.out.ob; clear hfT hbT hcT HUN)
  gi_cut [] from 16 (fun wx => Hid (∃ v, CSt w (scCs a W B) (fnCs b f) w1.heap.size AT ts cT LA v wx))
  case first =>
    rcases hcs with ⟨z1, z2⟩ | ⟨z1, z2⟩
    · gi_wp2
      gi_meet
      case rel => exact Lib.hid ⟨_, by rw [z2]; exact HST.out⟩
    · gi_wp2_with (gi_at_builtin; refine CSt.append rfl _ _ rfl HST.out (-1, 12) (by simp) (w1.heap.size + 1 + 1) (by simp) rfl rfl ?_; intro gg cap w9 hob HST9 HGR9 HAT9; have ob0 := one_cell hob.out; have obf := blk_free hob.out 0; clear hob)
      gi_meet
      case rel => exact Lib.hid ⟨_, by rw [z2]; exact HST9.out⟩
  case rest =>
    obtain ⟨v0, hst0⟩ := hcut.out
    have HST0 := Lib.hid hst0
    have n2 := one_cell hst0.ty
    clear hcut hst0 hcs n0 n1 HST HG0 HG1 HG2 HSZ HB3
    generalize w1.heap.size = g at *
    gi_wp2
    gi_loopw [35] (fun iv wr => ∃ (k : Nat) (v : Value), iv = .int .i64 k ∧ Hid (k ≤ ts.length) ∧ Hid (CSt w (scCs a W B) (fnCs b f) g AT ts cT (LA ++ callB W B ts f.f1 k) v wr)) (fun iv _ => ts.length - (intOf iv).toNat)
    case atStart => exact ⟨0, v0, rfl, Lib.hid (Nat.zero_le _), Lib.hid (by simpa [callB] using HST0.out)⟩
    case round =>
      clear HST0 n2
      obtain ⟨k, v, rfl, HK, HST⟩ := hrel
      by_cases hlt : k < ts.length
      · obtain ⟨ax, X4, e4, hAx, x0, x1, x2, x3, x4, lx, gx⟩ := at_T29 (Kd.F_now HST.out.ft) (k : Int) (by omega) (by omega)
        obtain ⟨ay, Y4, f4, hAy, y0, y1, y2, y3, y4, ly, gy⟩ := at_T29 HFW.out.b_ (k : Int) (by omega) (by have := HUL.out; omega)
        have hsu := callB_succ W B ts f.f1 k
        rw [rd_getD] at x0 x1 x2 x3 x4 lx gx y0 y1 y2 y3 y4 ly gy
        rw [Int.toNat_natCast] at x0 x1 x2 x3 x4 y0 y1 y2 y3 y4
        generalize ts.getD k zTy = x at *
        generalize f.f1.getD k zTy = y at *
        have hbw := HST.out.bel
        have h7 : Below wr.heap.size wr (wr.alloc (.cells #[.int .i64 x.f0, .string x.f1, .string x.f2, .int .i64 x.f3, .slice X4 x.f4.length e4] 29)) := bel_alloc (Below.refl _ _) _
        have h8 : Below wr.heap.size wr ((wr.alloc (.cells #[.int .i64 x.f0, .string x.f1, .string x.f2, .int .i64 x.f3, .slice X4 x.f4.length e4] 29)).alloc (.cells #[.int .i64 y.f0, .string y.f1, .string y.f2, .int .i64 y.f3, .slice Y4 y.f4.length f4] 29)) := bel_alloc h7 _
        have HST8 := Lib.hid (HST.out.below h8)
        have hst7 := HST.out.below h7
        obtain ⟨m1, _, _, _, _, _, _⟩ := fn_cells hst7.fn
        subst hAx
        replace y0 := cell_later (bel_trans hbw h7) y0
        replace y1 := cell_later (bel_trans hbw h7) y1
        replace y2 := cell_later (bel_trans hbw h7) y2
        replace y3 := cell_later (bel_trans hbw h7) y3
        replace y4 := cell_later (bel_trans hbw h7) y4
        rw [hAy] at m1
        have hx8 : ((wr.alloc (.cells #[.int .i64 x.f0, .string x.f1, .string x.f2, .int .i64 x.f3, .slice X4 x.f4.length e4] 29)).alloc (.cells #[.int .i64 y.f0, .string y.f1, .string y.f2, .int .i64 y.f3, .slice Y4 y.f4.length f4] 29)).heap[wr.heap.size]? = some (.cells #[.int .i64 x.f0, .string x.f1, .string x.f2, .int .i64 x.f3, .slice X4 x.f4.length e4] 29 (0, 0)) := blk_alloc (blk_new wr _) _
        have hy8 : ((wr.alloc (.cells #[.int .i64 x.f0, .string x.f1, .string x.f2, .int .i64 x.f3, .slice X4 x.f4.length e4] 29)).alloc (.cells #[.int .i64 y.f0, .string y.f1, .string y.f2, .int .i64 y.f3, .slice Y4 y.f4.length f4] 29)).heap[wr.heap.size + 1]? = some (.cells #[.int .i64 y.f0, .string y.f1, .string y.f2, .int .i64 y.f3, .slice Y4 y.f4.length f4] 29 (0, 0)) := by simpa using blk_new (wr.alloc (.cells #[.int .i64 x.f0, .string x.f1, .string x.f2, .int .i64 x.f3, .slice X4 x.f4.length e4] 29)) (.cells #[.int .i64 y.f0, .string y.f1, .string y.f2, .int .i64 y.f3, .slice Y4 y.f4.length f4] 29)
        obtain ⟨p0, p1, p2, p3, p4⟩ := ty_cells hx8
        obtain ⟨r0, r1, r2, r3, r4⟩ := ty_cells hy8
        obtain ⟨s0, s1, s2, s3, s4⟩ := sc_cells HST8.out.sc
        have t0 := one_cell HST8.out.ob
        have t1 := blk_free HST8.out.ob 0
        have HME := Lib.hid (meets_any a W B x y X4 Y4 e4 f4 ((wr.alloc (.cells #[.int .i64 x.f0, .string x.f1, .string x.f2, .int .i64 x.f3, .slice X4 x.f4.length e4] 29)).alloc (.cells #[.int .i64 y.f0, .string y.f1, .string y.f2, .int .i64 y.f3, .slice Y4 y.f4.length f4] 29)) (HWW.out.later (bel_trans hbw h8)) HPP.out.2.2 (Kd.C_below gx h8) lx (Kd.C_below gy (bel_trans hbw h8)) ly)
        simp only [scV, tyV] at HME
        have HLE : Hid ((LA ++ callB W B ts f.f1 k).length ≤ 5000) := Lib.hid (by have h1 := callB_len W B ts f.f1 k; have h2 := HLA.out; have h3 := HUL.out; rw [List.length_append]; omega)
        have HGOOD : Hid (boundBad W B x y = false → LA ++ callB W B ts f.f1 (k + 1) = LA ++ callB W B ts f.f1 k) := Lib.hid (fun h => by rw [hsu, h]; simp)
        have HBAD : Hid (boundBad W B x y = true → LA ++ callB W B ts f.f1 (k + 1) = (LA ++ callB W B ts f.f1 k) ++ [(-1, 15)]) := Lib.hid (fun h => by rw [hsu, h]; simp)
        have hbb : boundBad W B x y = (x.f0 == 0 || (y.f0 != 0 && !meetsP W B x y)) := rfl
        have i0 : 0 ≤ (k : Int) := by omega
        have i1 : (k : Int) < ts.length := by omega
        have i2 : (k : Int) < f.f1.length := by have := HUL.out; omega
        have HLT := Lib.hid hlt
        have hkb : k + 1 ≤ 9223372036854775807 := by have := HUL.out; omega
        have hcs : ((x.f0 == 0) = true ∧ boundBad W B x y = true) ∨ ((x.f0 == 0) = false ∧ (y.f0 != 0) = false ∧ boundBad W B x y = false) ∨ ((x.f0 == 0) = false ∧ (y.f0 != 0) = true ∧ meetsP W B x y = true ∧ boundBad W B x y = false) ∨ ((x.f0 == 0) = false ∧ (y.f0 != 0) = true ∧ meetsP W B x y = false ∧ boundBad W B x y = true) := by
          rw [hbb]
          cases (x.f0 == 0) <;> cases (y.f0 != 0) <;> cases meetsP W B x y <;> simp
        generalize LA ++ callB W B ts f.f1 k = L0 at *
        generalize boundBad W B x y = bad at *
        generalize meetsP W B x y = me at *
        clear hbb hsu gx lx gy ly hst7 h7 h8 hbw hx8 hy8 hAy
        rcases hcs with ⟨c1, rfl⟩ | ⟨c1, c2, rfl⟩ | ⟨c1, c2, rfl, rfl⟩ | ⟨c1, c2, rfl, rfl⟩
        · gi_wp2
          all_goals try (rename_i hb h2; have h3 : some undef = some (Value.bool _) := hb; cases h3)
          refine ⟨trivial, ?_⟩
          gi_wp2_with (gi_at_builtin; refine CSt.append rfl _ _ rfl HST8.out (-1, 15) HLE.out (wr.heap.size + 1 + 1) (by simp) rfl rfl ?_; intro gg cap w9 hob HST9 HGR9 HAT9; have ob0 := one_cell hob.out; have obf := blk_free hob.out 0; clear hob)
          go_roundw
          case rel => exact ⟨k + 1, _, by go_num, Lib.hid HLT.out, Lib.hid (by rw [HBAD.out (by first | rfl | trivial)]; exact HST9.out)⟩
          case measure => have := HLT.out; simp [intOf]; omega
        · gi_wp2
          all_goals try (rename_i hb h2; have h3 : some undef = some (Value.bool _) := hb; cases h3)
          refine ⟨trivial, ?_⟩
          gi_wp2
          go_roundw
          case rel => exact ⟨k + 1, v, by go_num, Lib.hid HLT.out, Lib.hid (by rw [HGOOD.out (by first | rfl | trivial)]; exact HST8.out)⟩
          case measure => have := HLT.out; simp [intOf]; omega
        · gi_wp2_with (refine ⟨trivial, ?_⟩; gi_at_call 29; refine (callsIn_wide.2 HME.out).mono ?_; rintro e w6 ⟨rfl, hb6⟩; have HST6 := Lib.hid (HST8.out.below hb6); clear hb6 HST8)
          go_roundw
          case rel => exact ⟨k + 1, v, by go_num, Lib.hid HLT.out, Lib.hid (by rw [HGOOD.out (by first | rfl | trivial)]; exact HST6.out)⟩
          case measure => have := HLT.out; simp [intOf]; omega
        · gi_wp2_with (first
            | (refine ⟨trivial, ?_⟩; gi_at_call 29; refine (callsIn_wide.2 HME.out).mono ?_; rintro e w6 ⟨rfl, hb6⟩; have HST6 := Lib.hid (HST8.out.below hb6); have u0 := one_cell HST6.out.ob; have u1 := blk_free HST6.out.ob 0; clear hb6 HST8)
            | (gi_at_builtin; refine CSt.append rfl _ _ rfl HST6.out (-1, 15) HLE.out _ rfl rfl rfl ?_; intro gg cap w9 hob HST9 HGR9 HAT9; have ob0 := one_cell hob.out; have obf := blk_free hob.out 0; clear hob))
          go_roundw
          case rel => exact ⟨k + 1, _, by go_num, Lib.hid HLT.out, Lib.hid (by rw [HBAD.out (by first | rfl | trivial)]; exact HST9.out)⟩
          case measure => have := HLT.out; simp [intOf]; omega
      · obtain rfl : k = ts.length := by have := HK.out; omega
        have hst := HST.out.below (bel_alloc (Below.refl wr.heap.size wr) (.cells #[.int .i64 0] 3))
        obtain ⟨_, m2, _, _, _, _, _⟩ := fn_cells hst.fn
        clear hst
        gi_wp2_with (refine ⟨trivial, ?_⟩; gi_at_call 69; refine (pairs_in _ b.A2 AA f.f2 args b.c2 ca _).mono ?_; rintro e w' ⟨rfl, rfl⟩)
        have hb1 : Below wr.heap.size wr (((wr.alloc (.cells #[.int .i64 0] 3)).alloc (.cells #[.slice b.A2 f.f2.length b.c2] 24)).alloc (.cells #[.slice AA args.length ca] 24)) := bel_alloc (bel_alloc (bel_alloc (Below.refl _ _) _) _) _
        have g0 : (((wr.alloc (.cells #[.int .i64 0] 3)).alloc (.cells #[.slice b.A2 f.f2.length b.c2] 24)).alloc (.cells #[.slice AA args.length ca] 24)).heap[wr.heap.size]? = some (.cells #[.int .i64 0] 3 (0, 0)) := blk_alloc (blk_alloc (blk_new wr _) _) _
        have g1 : (((wr.alloc (.cells #[.int .i64 0] 3)).alloc (.cells #[.slice b.A2 f.f2.length b.c2] 24)).alloc (.cells #[.slice AA args.length ca] 24)).heap[wr.heap.size + 1]? = some (.cells #[.slice b.A2 f.f2.length b.c2] 24 (0, 0)) := blk_alloc (by simpa using blk_new (wr.alloc (.cells #[.int .i64 0] 3)) (.cells #[.slice b.A2 f.f2.length b.c2] 24)) _
        have g2 : (((wr.alloc (.cells #[.int .i64 0] 3)).alloc (.cells #[.slice b.A2 f.f2.length b.c2] 24)).alloc (.cells #[.slice AA args.length ca] 24)).heap[wr.heap.size + 1 + 1]? = some (.cells #[.slice AA args.length ca] 24 (0, 0)) := by simpa using blk_new ((wr.alloc (.cells #[.int .i64 0] 3)).alloc (.cells #[.slice b.A2 f.f2.length b.c2] 24)) (.cells #[.slice AA args.length ca] 24)
        have hsz : (((wr.alloc (.cells #[.int .i64 0] 3)).alloc (.cells #[.slice b.A2 f.f2.length b.c2] 24)).alloc (.cells #[.slice AA args.length ca] 24)).heap.size = wr.heap.size + 3 := by simp
        have hst1 := HST.out.below hb1
        have HHI := Lib.hid HST.out.hi
        have HLO := Lib.hid HST.out.lo
        generalize (((wr.alloc (.cells #[.int .i64 0] 3)).alloc (.cells #[.slice b.A2 f.f2.length b.c2] 24)).alloc (.cells #[.slice AA args.length ca] 24)) = W1 at *
        generalize wr.heap.size = gi at *
        obtain ⟨va, hva, hva2⟩ := elems2 HFW.out.p_
        obtain ⟨vb, hvb, hvb2⟩ := elems2 HAW.out
        have hst := pairs_stopsS 4 (by decide) (fun k => g + 1 ≤ k ∧ k < gi + 1) b.A2 AA f.f2 args b.c2 ca va vb w W1 hpm ham hva hvb (gi + 1) (gi + 1 + 1) g1 g2 hst1.bel (fun k hk => by have := HLO.out; omega) (fun h => by omega) (fun h => by omega)
        have hI0 : CallI w (scCs a W B) (fnCs b f) g AT ts cT gi (.slice b.A2 f.f2.length b.c2) (.slice AA args.length ca) (LA ++ callB W B ts f.f1 ts.length) (badP W B ts f.f2 args) [] W1 := ⟨⟨v, by simpa [badL'] using hst1⟩, by simpa using g0, g1, g2⟩
        have HI0 := Lib.hid hI0
        have HVA := Lib.hid hva2
        have HVB := Lib.hid hvb2
        have HSZ := Lib.hid hsz
        have HL1 : Hid ((LA ++ callB W B ts f.f1 ts.length).length ≤ 20) := Lib.hid (by have h1 := callB_len W B ts f.f1 ts.length; have h2 := HLA.out; have h3 := HUL.out; rw [List.length_append]; omega)
        generalize hL1 : LA ++ callB W B ts f.f1 ts.length = L1 at *
        have HL1E := Lib.hid hL1
        clear g0 g1 g2 hI0 hva hvb hva2 hvb2 hst1 hb1 m2 hlt HST hL1
        refine wpIn_rangeFunc_ownH rfl (by decide) (gf := 80) (lb := #[.pointer (some ⟨gi + 1, 0, none⟩), .pointer (some ⟨gi + 1 + 1, 0, none⟩)]) rfl trivial (enters_of Try.func80 (by kernel_rfl) rfl) hst KS.trans (fun W l o o' hl h hc hw => KS.put W l o o' hl h hc hw) (Below.refl _ _) (fun _ => rfl)
          (CallI w (scCs a W B) (fnCs b f) g AT ts cT gi (.slice b.A2 f.f2.length b.c2) (.slice AA args.length ca) L1 (badP W B ts f.f2 args)) (fun _ _ _ => False) (callI_own (by have := HHI.out; omega)) (fun _ => fun _ _ _ _ h _ _ => h) HI0.out (CallAx va vb (gi + 2) (fun x q r => { tmps := #[.agg #[.slice a.AW W.length a.cW, .slice a.AI a.nI a.cI, .slice a.AN a.nN a.cN, .slice a.AB B.length a.cB, .slice a.AV a.nV a.cV], .agg #[.string f.f0, .slice b.A1 f.f1.length b.c1, .slice b.A2 f.f2.length b.c2, .int .i64 f.f3.f0, .string f.f3.f1, .string f.f3.f2, .int .i64 f.f3.f3, .slice b.A7 f.f3.f4.length b.c7], .slice AA args.length ca, .pointer (some ⟨w.heap.size, 0, none⟩), .pointer (some ⟨w.heap.size + 1, 0, none⟩), undef, .pointer (some ⟨w.heap.size + 1 + 1, 0, none⟩), .slice none 0 0, .pointer (some ⟨g, 0, none⟩), .pointer (some ⟨g + 1, 0, none⟩), u10, u11, u12, .pointer (some ⟨gi, 0, none⟩), .pointer (some ⟨q, 0, none⟩), .pointer (some ⟨r, 0, none⟩), u16, u17, u18, u19, u20, u21, u22, u23, u24, u25, u26, u27, u28, u29, u30, u31, u32, .slice AT ts.length cT, .int .i64 (ts.length : Int), .int .i64 (ts.length : Int), .bool false, u37, u38, u39, u40, u41, u42, u43, u44, u45, u46, u47, u48, u49, u50, u51, u52, u53, u54, u55, u56, u57, u58, u59, u60, u61, u62, u63, u64, .pointer (some ⟨w.heap.size + 1, 2, none⟩), .slice b.A2 f.f2.length b.c2, .slice AA args.length ca, .func (.func 80) #[] #[.pointer (some ⟨gi + 1, 0, none⟩), .pointer (some ⟨gi + 1 + 1, 0, none⟩)], va x, vb x, u71, u72, u73, u74, u75, u76, u77, u78, u79, u80, u81, u82, u83, u84, u85, u86, u87, u88, u89], defers := [] })) (fun x a' => callAx_own va vb (gi + 2) _ x a' _) ?assign ?body ?done ?stop
        case stop =>
          rintro D c pre W hD _ h
          exact h.elim
        case assign =>
          rintro y pre x Wx K hI hK
          obtain ⟨A4, c4, ev, _⟩ := HVA.out x
          obtain ⟨B4, d4, eu, _⟩ := HVB.out x
          have hb2 : Below Wx.heap.size Wx ((Wx.alloc (.cells (tyCs (va x)) 29)).alloc (.cells (tyCs (vb x)) 29)) := bel_alloc (bel_alloc (Below.refl _ _) _) _
          have hn4 := blk_lt hI.qb
          have HI := Lib.hid hI
          have HB2 := Lib.hid hb2
          have HAX := Lib.hid (tyCs_eq ev)
          have HBX := Lib.hid (tyCs_eq eu)
          have HEV := Lib.hid ev
          have HEU := Lib.hid eu
          rw [HAX.out, HBX.out] at HB2
          have HK := Lib.hid hK
          clear hI hb2 hK
          dsimp only
          rw [ev, eu]
          clear ev eu
          generalize f.f2.getD x zTy = p at *
          generalize args.getD x zTy = q at *
          simp only [tyV]
          gi_wp2
          refine HK.out _ _ (keepsFrom_below HB2.out) (Keeps.of_below HB2.out _) (HI.out.later HB2.out) ⟨Wx.heap.size, Wx.heap.size + 1, by omega, by omega, ?_, ?_, ?_⟩
          · rw [HAX.out]
            exact blk_alloc (blk_new Wx _) _
          · rw [HBX.out]
            have := blk_new (Wx.alloc (.cells #[.int .i64 p.f0, .string p.f1, .string p.f2, .int .i64 p.f3, .slice A4 p.f4.length c4] 29)) (.cells #[.int .i64 q.f0, .string q.f1, .string q.f2, .int .i64 q.f3, .slice B4 q.f4.length d4] 29)
            simp only [World.size_alloc] at this
            exact this
          · rw [HEV.out, HEU.out]; rfl
        case body =>
          rintro y pre x a' Wx hl1 ⟨rr, hrr⟩ hI ⟨q, r, hq, hr, h1, h2, rfl⟩ hlt
          obtain ⟨A4, c4, ev, lx, gx⟩ := HVA.out x
          obtain ⟨B4, d4, eu, lz, gz⟩ := HVB.out x
          rw [tyCs_eq ev] at h1
          rw [tyCs_eq eu] at h2
          obtain ⟨v, hst2⟩ := hI.st
          have hbw := hst2.bel
          have hpk := (tyW_get HPP.out.1 x).ok
          have HEND := fun (n₀ : Nat) (Wm : World) (v' : Value) (l' : List Wr) => call_round (n₀ := n₀) (x := x) (Wm := Wm) (v' := v') (l' := l') hI hst2
          have hbx : badP W B ts f.f2 args x = !assignP W B (args.getD x zTy) (substT ts (f.f2.getD x zTy)) := rfl
          generalize badP W B ts f.f2 args = badF at *
          generalize f.f2.getD x zTy = p at *
          generalize args.getD x zTy = z at *
          obtain ⟨p0, p1, p2, p3, p4⟩ := ty_cells h1
          obtain ⟨r0, r1, r2, r3, r4⟩ := ty_cells h2
          obtain ⟨s0, s1, s2, s3, s4⟩ := sc_cells hst2.sc
          have m8 := one_cell hst2.ty
          have HSU := Lib.hid (subst_any ts AT cT Wx.drew (Kd.C_below (Kd.F_now hst2.ft) (bel_drew (Below.refl _ _))) HCT.out HUM.out hpk A4 c4 Wx.drew (Below.refl _ _) (Kd.C_below gx (bel_drew hbw)) lx)
          have HAS := Lib.hid (fun (A5 : Option Addr) (c5 : Nat) (w5 : World) (hb5 : Below Wx.heap.size Wx w5) (h5 : Kd.C kTy w5 A5 (substT ts p).f4.length (substT ts p).f4) (l5 : (substT ts p).f4.length ≤ c5) => assign_any a W B z (substT ts p) B4 A5 d4 c5 w5 (HWW.out.later (bel_trans hbw hb5)) HPP.out.2.2 (Kd.C_below gz (bel_trans hbw hb5)) lz h5 l5)
          have HCE := Lib.hid (fun (w5 : World) (hb5 : Below Wx.heap.size Wx w5) => And.intro (ty_cells (blk_later hb5 h2)) (sc_cells (blk_later hb5 hst2.sc)))
          generalize substT ts p = sp at *
          generalize assignP W B z sp = asg at *
          simp only [tyV, scV] at HSU HAS
          have HST2 := Lib.hid hst2
          have HI2 := Lib.hid hI
          have HQR := Lib.hid (And.intro hq hr)
          have HENDH := Lib.hid HEND
          have hpl : pre.length + 1 ≤ 1001 := by have := Nat.min_le_left f.f2.length args.length; omega
          have HEV := Lib.hid ev
          have HEU := Lib.hid eu
          dsimp only
          rw [ev, eu]
          clear ev eu hI hst2 HEND hbw gx lx gz lz h1 h2 hrr hl1 hq hr HI0 HVA HVB hst hpk
          simp only [tyV]
          gi_wp2
          gi_cut [77] from 71 (fun s wx => s = .bool (!asg) ∧ Hid (Below Wx.heap.size Wx wx))
          case first =>
            have hmx : Try.prog.follows .mixedOrders = true := by kernel_rfl
            gi_region_with_o (first
              | (refine ⟨trivial, ?_⟩; gi_at_call 67; refine (CallsIn.inRound y (callsIn_wide.2 HSU.out)).mono ?_; rintro e w5 ⟨A5, c5, rfl, l5, F5, hb5⟩; have hb6 := bel_trans (bel_drew (Below.refl Wx.heap.size Wx)) hb5; have HAS5 := Lib.hid (HAS.out A5 c5 w5 hb6 (Kd.F_now F5) l5); have HB6 := Lib.hid hb6; obtain ⟨⟨e0, e1, e2, e3, e4⟩, k0, k1, k2, k3, k4⟩ := HCE.out w5 hb6; clear hb5 hb6 F5 l5)
              | (refine ⟨trivial, ?_⟩; gi_at_call 31; refine (CallsIn.inRound y (callsIn_wide.2 HAS5.out)).mono ?_; rintro e w6 ⟨rfl, hb7⟩; have HB7 := Lib.hid (bel_trans HB6.out hb7); clear hb7))
            all_goals
              gi_wp2
              gi_meet
              case rel => exact ⟨rfl, HB7⟩
          case rest =>
            obtain ⟨rfl, HBC⟩ := hcut
            clear HSU HAS HCE p0 p1 p2 p3 p4 r0 r1 r2 r3 r4 s0 s1 s2 s3 s4 m8
            have HST3 := Lib.hid (HST2.out.below HBC.out)
            have hib := blk_later HBC.out HI2.out.ib
            have HIB := Lib.hid hib
            have c0 := one_cell hib
            have c1 := blk_free hib 0
            have o0 := one_cell HST3.out.ob
            have o1 := blk_free HST3.out.ob 0
            have HLE : Hid ((L1 ++ badL' badF 0 pre).length ≤ 5000) := Lib.hid (by have h1 := badL_len badF 0 pre; have h2 := HL1.out; rw [List.length_append]; omega)
            have HBX := Lib.hid hbx
            clear hib hbx HST2 hlt
            generalize L1 ++ badL' badF 0 pre = L0 at *
            cases asg with
            | true =>
              gi_wp2
              exact HENDH.out _ wc v _ HST3.out (by rw [HBX.out]; simp) (Keeps.of_below HBC.out _) (fun k hk => .inl hk) HHI.out (by first | rfl | exact HSZ.out)
            | false =>
              have hne : ∀ k, v.ownBlock = some k → k ≠ gi := by
                intro k hk e
                subst e
                obtain ⟨cs, hcs⟩ := HST3.out.ow.cells hk
                rw [HIB.out] at hcs
                injection hcs with hcs
                injection hcs with _ h2 _
                exact absurd h2 (by decide)
              have HNE := Lib.hid hne
              clear hne
              gi_wp2_with (gi_at_builtin; refine CSt.append rfl _ _ rfl HST3.out ((pre.length : Int), 11) HLE.out _ rfl rfl rfl ?_; intro gg cap w9 hob HST9 HGR9 HAT9; have ob0 := one_cell hob.out; have obf := blk_free hob.out 0; have hi9 := (blk_far w9 (g + 1) 0 gi (.slice (some ⟨gg, 0, none⟩) (L0.length + 1) cap) (by have := HHI.out; omega)).trans ((HGR9.out.block gi (by have := blk_lt HIB.out; simp; omega) (fun e => HNE.out _ e.symm rfl)).trans (blk_alloc HIB.out _)); have j0 := one_cell hi9; have j1 := blk_free hi9 0; have HI9 := Lib.hid hi9; clear hi9 hob)
              refine HENDH.out _ _ _ _ HST9.out (by rw [HBX.out]; simp) ?_ (fun k hk => ?_) HHI.out (by first | rfl | exact HSZ.out)
              · exact Keeps.set (Keeps.grown (Keeps.alloc (Keeps.of_below HBC.out _) _) HGR9.out (fun k e => .inl (.inr e))) _ _ _ (.inl (.inl rfl))
              · have hgg : gg = k := by simpa [Value.ownBlock] using hk
                subst hgg
                rcases HAT9.out with h | h
                · exact .inl h
                · exact .inr (Nat.le_trans HBC.out.size h)
        case done =>
          rintro D xs Wx hD hS hI hK
          have hS' : xs = List.range (min f.f2.length args.length) := hS
          subst hS'
          obtain ⟨v, hst3⟩ := hI.st
          rw [badL_range, ← HLL.out] at hst3
          have hbw := hst3.bel
          have m8 := one_cell hst3.ty
          have o0 := one_cell hst3.ob
          obtain ⟨_, _, n3, n4, n5, n6, n7⟩ := fn_cells hst3.fn
          have z0 := cell_at hst3.rs 0 _ rfl
          have z1 := cell_at hst3.rs 1 _ rfl
          have z2 := cell_at hst3.rs 2 _ rfl
          have z3 := cell_at hst3.rs 3 _ rfl
          have z4 := cell_at hst3.rs 4 _ rfl
          have q0 := blk_free hst3.rs 0
          have q1 := blk_free hst3.rs 1
          have q2 := blk_free hst3.rs 2
          have q3 := blk_free hst3.rs 3
          have q4 := blk_free hst3.rs 4
          have HSU := Lib.hid (subst_any ts AT cT Wx.drew (Kd.C_below (Kd.F_now hst3.ft) (bel_drew (Below.refl _ _))) HCT.out HUM.out HPP.out.2.1 b.A7 b.c7 Wx.drew (Below.refl _ _) (Kd.C_below HFW.out.r_ (bel_drew hbw)) HFW.out.rc)
          rw [← HTT.out] at HSU
          simp only [tyV] at HSU
          have HST3 := Lib.hid hst3
          have HK := Lib.hid hK
          have HDD := Lib.hid hD
          clear hst3 hI hK hS hbw hD HI0 HVA HVB hst
          gi_wp2
          have hmx : Try.prog.follows .mixedOrders = true := by kernel_rfl
          have HN := Lib.hid (And.intro (blk_lt HK.out) HST3.out.hi)
          refine wpIn_region_any (by assumption) ?_
          try (change wpAnyIn _ _ _ _ _ _ _ _ _ (World.drew _))
          refine wpAnyIn_ready (rs := [0, 2, 4]) (by kernel_rfl) (by simp) ?_
          refine AllReadyIn.cons rfl (fun K hK => ?_) ?_
          · go_simp
            refine hK _ _ ?_
            clear hK K
            refine wpAnyIn_ready (rs := [1, 2, 4]) (by kernel_rfl) (by simp) ?_
            refine AllReadyIn.cons rfl (fun K hK => ?_) ?_
            · go_simp
              refine hK _ _ ?_
              clear hK K
              refine wpAnyIn_ready (rs := [2, 4]) (by kernel_rfl) (by simp) ?_
              refine AllReadyIn.cons rfl (fun K hK => ?_) ?_
              · go_simp
                refine hK _ _ ?_
                clear hK K
                refine wpAnyIn_ready (rs := [3, 4]) (by kernel_rfl) (by simp) ?_
                refine AllReadyIn.cons rfl (fun K hK => ?_) ?_
                · go_simp
                  gi_wp2_with (refine ⟨trivial, ?_⟩; gi_at_call 67; refine (callsIn_wide.2 HSU.out).mono ?_; rintro e w5 ⟨A5, c5, rfl, l5, F5, hb5⟩; have hb6 := bel_trans (bel_drew (Below.refl Wx.heap.size Wx)) hb5; have hst5 := HST3.out.below hb6; have HCE := Lib.hid (call_fin hst5 TT A5 c5 (N := Wx.heap.size) (D := D) (Kd.F_mono F5 (fun b hb => hb)) HN.out.2 HN.out.1 (by have h1 := HDD.out; have h2 := HSZ.out; have h3 := HLO.out; have h4 := HHI.out; omega) (blk_later hb6 HK.out)); have HL5 := Lib.hid l5; obtain ⟨z0, z1, z2, z3, z4, q0, q1, q2, q3, q4, o0, o1⟩ := fin_cells hst5 TT A5 c5; clear hb5 hb6 F5 l5 hst5)
                  refine wpAnyIn_ready (rs := [4, 5]) (by kernel_rfl) (by simp) ?_
                  refine AllReadyIn.cons rfl (fun K hK => ?_) ?_
                  · go_simp
                    refine hK _ _ ?_
                    clear hK K
                    refine wpAnyIn_ready (rs := [5]) (by kernel_rfl) (by simp) ?_
                    refine AllReadyIn.cons rfl (fun K hK => ?_) ?_
                    · go_simp
                      refine hK _ _ ?_
                      clear hK K
                      refine wpAnyIn_ready (rs := [6]) (by kernel_rfl) (by simp) ?_
                      refine AllReadyIn.cons rfl (fun K hK => ?_) ?_
                      · go_simp
                        refine hK _ _ ?_
                        clear hK K
                        refine wpAnyIn_done (by kernel_rfl) ?_ _
                        gi_wp2
                        refine call_end HCE.out.1 rfl HCE.out.2.1 rfl rfl rfl ⟨A5, c5, v, rfl, HL5.out, HCE.out.2.2.1, HCE.out.2.2.2.1, HCE.out.2.2.2.2⟩
                      exact AllReadyIn.nil
                    exact AllReadyIn.nil
                  refine AllReadyIn.cons rfl (fun K hK => ?_) ?_
                  · go_simp
                    refine hK _ _ ?_
                    clear hK K
                    refine wpAnyIn_ready (rs := [4]) (by kernel_rfl) (by simp) ?_
                    refine AllReadyIn.cons rfl (fun K hK => ?_) ?_
                    · go_simp
                      refine hK _ _ ?_
                      clear hK K
                      refine wpAnyIn_ready (rs := [6]) (by kernel_rfl) (by simp) ?_
                      refine AllReadyIn.cons rfl (fun K hK => ?_) ?_
                      · go_simp
                        refine hK _ _ ?_
                        clear hK K
                        refine wpAnyIn_done (by kernel_rfl) ?_ _
                        gi_wp2
                        refine call_end HCE.out.1 rfl HCE.out.2.1 rfl rfl rfl ⟨A5, c5, v, rfl, HL5.out, HCE.out.2.2.1, HCE.out.2.2.2.1, HCE.out.2.2.2.2⟩
                      exact AllReadyIn.nil
                    exact AllReadyIn.nil
                  exact AllReadyIn.nil
                refine AllReadyIn.cons rfl (fun K hK => ?_) ?_
                · go_simp
                  refine hK _ _ ?_
                  clear hK K
                  refine wpAnyIn_ready (rs := [3]) (by kernel_rfl) (by simp) ?_
                  refine AllReadyIn.cons rfl (fun K hK => ?_) ?_
                  · go_simp
                    gi_wp2_with (refine ⟨trivial, ?_⟩; gi_at_call 67; refine (callsIn_wide.2 HSU.out).mono ?_; rintro e w5 ⟨A5, c5, rfl, l5, F5, hb5⟩; have hb6 := bel_trans (bel_drew (Below.refl Wx.heap.size Wx)) hb5; have hst5 := HST3.out.below hb6; have HCE := Lib.hid (call_fin hst5 TT A5 c5 (N := Wx.heap.size) (D := D) (Kd.F_mono F5 (fun b hb => hb)) HN.out.2 HN.out.1 (by have h1 := HDD.out; have h2 := HSZ.out; have h3 := HLO.out; have h4 := HHI.out; omega) (blk_later hb6 HK.out)); have HL5 := Lib.hid l5; obtain ⟨z0, z1, z2, z3, z4, q0, q1, q2, q3, q4, o0, o1⟩ := fin_cells hst5 TT A5 c5; clear hb5 hb6 F5 l5 hst5)
                    refine wpAnyIn_ready (rs := [5]) (by kernel_rfl) (by simp) ?_
                    refine AllReadyIn.cons rfl (fun K hK => ?_) ?_
                    · go_simp
                      refine hK _ _ ?_
                      clear hK K
                      refine wpAnyIn_ready (rs := [6]) (by kernel_rfl) (by simp) ?_
                      refine AllReadyIn.cons rfl (fun K hK => ?_) ?_
                      · go_simp
                        refine hK _ _ ?_
                        clear hK K
                        refine wpAnyIn_done (by kernel_rfl) ?_ _
                        gi_wp2
                        refine call_end HCE.out.1 rfl HCE.out.2.1 rfl rfl rfl ⟨A5, c5, v, rfl, HL5.out, HCE.out.2.2.1, HCE.out.2.2.2.1, HCE.out.2.2.2.2⟩
                      exact AllReadyIn.nil
                    exact AllReadyIn.nil
                  exact AllReadyIn.nil
                exact AllReadyIn.nil
              refine AllReadyIn.cons rfl (fun K hK => ?_) ?_
              · go_simp
                refine hK _ _ ?_
                clear hK K
                refine wpAnyIn_ready (rs := [2]) (by kernel_rfl) (by simp) ?_
                refine AllReadyIn.cons rfl (fun K hK => ?_) ?_
                · go_simp
                  refine hK _ _ ?_
                  clear hK K
                  refine wpAnyIn_ready (rs := [3]) (by kernel_rfl) (by simp) ?_
                  refine AllReadyIn.cons rfl (fun K hK => ?_) ?_
                  · go_simp
                    gi_wp2_with (refine ⟨trivial, ?_⟩; gi_at_call 67; refine (callsIn_wide.2 HSU.out).mono ?_; rintro e w5 ⟨A5, c5, rfl, l5, F5, hb5⟩; have hb6 := bel_trans (bel_drew (Below.refl Wx.heap.size Wx)) hb5; have hst5 := HST3.out.below hb6; have HCE := Lib.hid (call_fin hst5 TT A5 c5 (N := Wx.heap.size) (D := D) (Kd.F_mono F5 (fun b hb => hb)) HN.out.2 HN.out.1 (by have h1 := HDD.out; have h2 := HSZ.out; have h3 := HLO.out; have h4 := HHI.out; omega) (blk_later hb6 HK.out)); have HL5 := Lib.hid l5; obtain ⟨z0, z1, z2, z3, z4, q0, q1, q2, q3, q4, o0, o1⟩ := fin_cells hst5 TT A5 c5; clear hb5 hb6 F5 l5 hst5)
                    refine wpAnyIn_ready (rs := [5]) (by kernel_rfl) (by simp) ?_
                    refine AllReadyIn.cons rfl (fun K hK => ?_) ?_
                    · go_simp
                      refine hK _ _ ?_
                      clear hK K
                      refine wpAnyIn_ready (rs := [6]) (by kernel_rfl) (by simp) ?_
                      refine AllReadyIn.cons rfl (fun K hK => ?_) ?_
                      · go_simp
                        refine hK _ _ ?_
                        clear hK K
                        refine wpAnyIn_done (by kernel_rfl) ?_ _
                        gi_wp2
                        refine call_end HCE.out.1 rfl HCE.out.2.1 rfl rfl rfl ⟨A5, c5, v, rfl, HL5.out, HCE.out.2.2.1, HCE.out.2.2.2.1, HCE.out.2.2.2.2⟩
                      exact AllReadyIn.nil
                    exact AllReadyIn.nil
                  exact AllReadyIn.nil
                exact AllReadyIn.nil
              exact AllReadyIn.nil
            refine AllReadyIn.cons rfl (fun K hK => ?_) ?_
            · go_simp
              refine hK _ _ ?_
              clear hK K
              refine wpAnyIn_ready (rs := [1, 4]) (by kernel_rfl) (by simp) ?_
              refine AllReadyIn.cons rfl (fun K hK => ?_) ?_
              · go_simp
                refine hK _ _ ?_
                clear hK K
                refine wpAnyIn_ready (rs := [3, 4]) (by kernel_rfl) (by simp) ?_
                refine AllReadyIn.cons rfl (fun K hK => ?_) ?_
                · go_simp
                  gi_wp2_with (refine ⟨trivial, ?_⟩; gi_at_call 67; refine (callsIn_wide.2 HSU.out).mono ?_; rintro e w5 ⟨A5, c5, rfl, l5, F5, hb5⟩; have hb6 := bel_trans (bel_drew (Below.refl Wx.heap.size Wx)) hb5; have hst5 := HST3.out.below hb6; have HCE := Lib.hid (call_fin hst5 TT A5 c5 (N := Wx.heap.size) (D := D) (Kd.F_mono F5 (fun b hb => hb)) HN.out.2 HN.out.1 (by have h1 := HDD.out; have h2 := HSZ.out; have h3 := HLO.out; have h4 := HHI.out; omega) (blk_later hb6 HK.out)); have HL5 := Lib.hid l5; obtain ⟨z0, z1, z2, z3, z4, q0, q1, q2, q3, q4, o0, o1⟩ := fin_cells hst5 TT A5 c5; clear hb5 hb6 F5 l5 hst5)
                  refine wpAnyIn_ready (rs := [4, 5]) (by kernel_rfl) (by simp) ?_
                  refine AllReadyIn.cons rfl (fun K hK => ?_) ?_
                  · go_simp
                    refine hK _ _ ?_
                    clear hK K
                    refine wpAnyIn_ready (rs := [5]) (by kernel_rfl) (by simp) ?_
                    refine AllReadyIn.cons rfl (fun K hK => ?_) ?_
                    · go_simp
                      refine hK _ _ ?_
                      clear hK K
                      refine wpAnyIn_ready (rs := [6]) (by kernel_rfl) (by simp) ?_
                      refine AllReadyIn.cons rfl (fun K hK => ?_) ?_
                      · go_simp
                        refine hK _ _ ?_
                        clear hK K
                        refine wpAnyIn_done (by kernel_rfl) ?_ _
                        gi_wp2
                        refine call_end HCE.out.1 rfl HCE.out.2.1 rfl rfl rfl ⟨A5, c5, v, rfl, HL5.out, HCE.out.2.2.1, HCE.out.2.2.2.1, HCE.out.2.2.2.2⟩
                      exact AllReadyIn.nil
                    exact AllReadyIn.nil
                  refine AllReadyIn.cons rfl (fun K hK => ?_) ?_
                  · go_simp
                    refine hK _ _ ?_
                    clear hK K
                    refine wpAnyIn_ready (rs := [4]) (by kernel_rfl) (by simp) ?_
                    refine AllReadyIn.cons rfl (fun K hK => ?_) ?_
                    · go_simp
                      refine hK _ _ ?_
                      clear hK K
                      refine wpAnyIn_ready (rs := [6]) (by kernel_rfl) (by simp) ?_
                      refine AllReadyIn.cons rfl (fun K hK => ?_) ?_
                      · go_simp
                        refine hK _ _ ?_
                        clear hK K
                        refine wpAnyIn_done (by kernel_rfl) ?_ _
                        gi_wp2
                        refine call_end HCE.out.1 rfl HCE.out.2.1 rfl rfl rfl ⟨A5, c5, v, rfl, HL5.out, HCE.out.2.2.1, HCE.out.2.2.2.1, HCE.out.2.2.2.2⟩
                      exact AllReadyIn.nil
                    exact AllReadyIn.nil
                  exact AllReadyIn.nil
                refine AllReadyIn.cons rfl (fun K hK => ?_) ?_
                · go_simp
                  refine hK _ _ ?_
                  clear hK K
                  refine wpAnyIn_ready (rs := [3]) (by kernel_rfl) (by simp) ?_
                  refine AllReadyIn.cons rfl (fun K hK => ?_) ?_
                  · go_simp
                    gi_wp2_with (refine ⟨trivial, ?_⟩; gi_at_call 67; refine (callsIn_wide.2 HSU.out).mono ?_; rintro e w5 ⟨A5, c5, rfl, l5, F5, hb5⟩; have hb6 := bel_trans (bel_drew (Below.refl Wx.heap.size Wx)) hb5; have hst5 := HST3.out.below hb6; have HCE := Lib.hid (call_fin hst5 TT A5 c5 (N := Wx.heap.size) (D := D) (Kd.F_mono F5 (fun b hb => hb)) HN.out.2 HN.out.1 (by have h1 := HDD.out; have h2 := HSZ.out; have h3 := HLO.out; have h4 := HHI.out; omega) (blk_later hb6 HK.out)); have HL5 := Lib.hid l5; obtain ⟨z0, z1, z2, z3, z4, q0, q1, q2, q3, q4, o0, o1⟩ := fin_cells hst5 TT A5 c5; clear hb5 hb6 F5 l5 hst5)
                    refine wpAnyIn_ready (rs := [5]) (by kernel_rfl) (by simp) ?_
                    refine AllReadyIn.cons rfl (fun K hK => ?_) ?_
                    · go_simp
                      refine hK _ _ ?_
                      clear hK K
                      refine wpAnyIn_ready (rs := [6]) (by kernel_rfl) (by simp) ?_
                      refine AllReadyIn.cons rfl (fun K hK => ?_) ?_
                      · go_simp
                        refine hK _ _ ?_
                        clear hK K
                        refine wpAnyIn_done (by kernel_rfl) ?_ _
                        gi_wp2
                        refine call_end HCE.out.1 rfl HCE.out.2.1 rfl rfl rfl ⟨A5, c5, v, rfl, HL5.out, HCE.out.2.2.1, HCE.out.2.2.2.1, HCE.out.2.2.2.2⟩
                      exact AllReadyIn.nil
                    exact AllReadyIn.nil
                  exact AllReadyIn.nil
                exact AllReadyIn.nil
              refine AllReadyIn.cons rfl (fun K hK => ?_) ?_
              · go_simp
                refine hK _ _ ?_
                clear hK K
                refine wpAnyIn_ready (rs := [1]) (by kernel_rfl) (by simp) ?_
                refine AllReadyIn.cons rfl (fun K hK => ?_) ?_
                · go_simp
                  refine hK _ _ ?_
                  clear hK K
                  refine wpAnyIn_ready (rs := [3]) (by kernel_rfl) (by simp) ?_
                  refine AllReadyIn.cons rfl (fun K hK => ?_) ?_
                  · go_simp
                    gi_wp2_with (refine ⟨trivial, ?_⟩; gi_at_call 67; refine (callsIn_wide.2 HSU.out).mono ?_; rintro e w5 ⟨A5, c5, rfl, l5, F5, hb5⟩; have hb6 := bel_trans (bel_drew (Below.refl Wx.heap.size Wx)) hb5; have hst5 := HST3.out.below hb6; have HCE := Lib.hid (call_fin hst5 TT A5 c5 (N := Wx.heap.size) (D := D) (Kd.F_mono F5 (fun b hb => hb)) HN.out.2 HN.out.1 (by have h1 := HDD.out; have h2 := HSZ.out; have h3 := HLO.out; have h4 := HHI.out; omega) (blk_later hb6 HK.out)); have HL5 := Lib.hid l5; obtain ⟨z0, z1, z2, z3, z4, q0, q1, q2, q3, q4, o0, o1⟩ := fin_cells hst5 TT A5 c5; clear hb5 hb6 F5 l5 hst5)
                    refine wpAnyIn_ready (rs := [5]) (by kernel_rfl) (by simp) ?_
                    refine AllReadyIn.cons rfl (fun K hK => ?_) ?_
                    · go_simp
                      refine hK _ _ ?_
                      clear hK K
                      refine wpAnyIn_ready (rs := [6]) (by kernel_rfl) (by simp) ?_
                      refine AllReadyIn.cons rfl (fun K hK => ?_) ?_
                      · go_simp
                        refine hK _ _ ?_
                        clear hK K
                        refine wpAnyIn_done (by kernel_rfl) ?_ _
                        gi_wp2
                        refine call_end HCE.out.1 rfl HCE.out.2.1 rfl rfl rfl ⟨A5, c5, v, rfl, HL5.out, HCE.out.2.2.1, HCE.out.2.2.2.1, HCE.out.2.2.2.2⟩
                      exact AllReadyIn.nil
                    exact AllReadyIn.nil
                  exact AllReadyIn.nil
                exact AllReadyIn.nil
              exact AllReadyIn.nil
            refine AllReadyIn.cons rfl (fun K hK => ?_) ?_
            · go_simp
              refine hK _ _ ?_
              clear hK K
              refine wpAnyIn_ready (rs := [1, 2]) (by kernel_rfl) (by simp) ?_
              refine AllReadyIn.cons rfl (fun K hK => ?_) ?_
              · go_simp
                refine hK _ _ ?_
                clear hK K
                refine wpAnyIn_ready (rs := [2]) (by kernel_rfl) (by simp) ?_
                refine AllReadyIn.cons rfl (fun K hK => ?_) ?_
                · go_simp
                  refine hK _ _ ?_
                  clear hK K
                  refine wpAnyIn_ready (rs := [3]) (by kernel_rfl) (by simp) ?_
                  refine AllReadyIn.cons rfl (fun K hK => ?_) ?_
                  · go_simp
                    gi_wp2_with (refine ⟨trivial, ?_⟩; gi_at_call 67; refine (callsIn_wide.2 HSU.out).mono ?_; rintro e w5 ⟨A5, c5, rfl, l5, F5, hb5⟩; have hb6 := bel_trans (bel_drew (Below.refl Wx.heap.size Wx)) hb5; have hst5 := HST3.out.below hb6; have HCE := Lib.hid (call_fin hst5 TT A5 c5 (N := Wx.heap.size) (D := D) (Kd.F_mono F5 (fun b hb => hb)) HN.out.2 HN.out.1 (by have h1 := HDD.out; have h2 := HSZ.out; have h3 := HLO.out; have h4 := HHI.out; omega) (blk_later hb6 HK.out)); have HL5 := Lib.hid l5; obtain ⟨z0, z1, z2, z3, z4, q0, q1, q2, q3, q4, o0, o1⟩ := fin_cells hst5 TT A5 c5; clear hb5 hb6 F5 l5 hst5)
                    refine wpAnyIn_ready (rs := [5]) (by kernel_rfl) (by simp) ?_
                    refine AllReadyIn.cons rfl (fun K hK => ?_) ?_
                    · go_simp
                      refine hK _ _ ?_
                      clear hK K
                      refine wpAnyIn_ready (rs := [6]) (by kernel_rfl) (by simp) ?_
                      refine AllReadyIn.cons rfl (fun K hK => ?_) ?_
                      · go_simp
                        refine hK _ _ ?_
                        clear hK K
                        refine wpAnyIn_done (by kernel_rfl) ?_ _
                        gi_wp2
                        refine call_end HCE.out.1 rfl HCE.out.2.1 rfl rfl rfl ⟨A5, c5, v, rfl, HL5.out, HCE.out.2.2.1, HCE.out.2.2.2.1, HCE.out.2.2.2.2⟩
                      exact AllReadyIn.nil
                    exact AllReadyIn.nil
                  exact AllReadyIn.nil
                exact AllReadyIn.nil
              refine AllReadyIn.cons rfl (fun K hK => ?_) ?_
              · go_simp
                refine hK _ _ ?_
                clear hK K
                refine wpAnyIn_ready (rs := [1]) (by kernel_rfl) (by simp) ?_
                refine AllReadyIn.cons rfl (fun K hK => ?_) ?_
                · go_simp
                  refine hK _ _ ?_
                  clear hK K
                  refine wpAnyIn_ready (rs := [3]) (by kernel_rfl) (by simp) ?_
                  refine AllReadyIn.cons rfl (fun K hK => ?_) ?_
                  · go_simp
                    gi_wp2_with (refine ⟨trivial, ?_⟩; gi_at_call 67; refine (callsIn_wide.2 HSU.out).mono ?_; rintro e w5 ⟨A5, c5, rfl, l5, F5, hb5⟩; have hb6 := bel_trans (bel_drew (Below.refl Wx.heap.size Wx)) hb5; have hst5 := HST3.out.below hb6; have HCE := Lib.hid (call_fin hst5 TT A5 c5 (N := Wx.heap.size) (D := D) (Kd.F_mono F5 (fun b hb => hb)) HN.out.2 HN.out.1 (by have h1 := HDD.out; have h2 := HSZ.out; have h3 := HLO.out; have h4 := HHI.out; omega) (blk_later hb6 HK.out)); have HL5 := Lib.hid l5; obtain ⟨z0, z1, z2, z3, z4, q0, q1, q2, q3, q4, o0, o1⟩ := fin_cells hst5 TT A5 c5; clear hb5 hb6 F5 l5 hst5)
                    refine wpAnyIn_ready (rs := [5]) (by kernel_rfl) (by simp) ?_
                    refine AllReadyIn.cons rfl (fun K hK => ?_) ?_
                    · go_simp
                      refine hK _ _ ?_
                      clear hK K
                      refine wpAnyIn_ready (rs := [6]) (by kernel_rfl) (by simp) ?_
                      refine AllReadyIn.cons rfl (fun K hK => ?_) ?_
                      · go_simp
                        refine hK _ _ ?_
                        clear hK K
                        refine wpAnyIn_done (by kernel_rfl) ?_ _
                        gi_wp2
                        refine call_end HCE.out.1 rfl HCE.out.2.1 rfl rfl rfl ⟨A5, c5, v, rfl, HL5.out, HCE.out.2.2.1, HCE.out.2.2.2.1, HCE.out.2.2.2.2⟩
                      exact AllReadyIn.nil
                    exact AllReadyIn.nil
                  exact AllReadyIn.nil
                exact AllReadyIn.nil
              exact AllReadyIn.nil
            exact AllReadyIn.nil
          refine AllReadyIn.cons rfl (fun K hK => ?_) ?_
          · go_simp
            refine hK _ _ ?_
            clear hK K
            refine wpAnyIn_ready (rs := [0, 4]) (by kernel_rfl) (by simp) ?_
            refine AllReadyIn.cons rfl (fun K hK => ?_) ?_
            · go_simp
              refine hK _ _ ?_
              clear hK K
              refine wpAnyIn_ready (rs := [1, 4]) (by kernel_rfl) (by simp) ?_
              refine AllReadyIn.cons rfl (fun K hK => ?_) ?_
              · go_simp
                refine hK _ _ ?_
                clear hK K
                refine wpAnyIn_ready (rs := [3, 4]) (by kernel_rfl) (by simp) ?_
                refine AllReadyIn.cons rfl (fun K hK => ?_) ?_
                · go_simp
                  gi_wp2_with (refine ⟨trivial, ?_⟩; gi_at_call 67; refine (callsIn_wide.2 HSU.out).mono ?_; rintro e w5 ⟨A5, c5, rfl, l5, F5, hb5⟩; have hb6 := bel_trans (bel_drew (Below.refl Wx.heap.size Wx)) hb5; have hst5 := HST3.out.below hb6; have HCE := Lib.hid (call_fin hst5 TT A5 c5 (N := Wx.heap.size) (D := D) (Kd.F_mono F5 (fun b hb => hb)) HN.out.2 HN.out.1 (by have h1 := HDD.out; have h2 := HSZ.out; have h3 := HLO.out; have h4 := HHI.out; omega) (blk_later hb6 HK.out)); have HL5 := Lib.hid l5; obtain ⟨z0, z1, z2, z3, z4, q0, q1, q2, q3, q4, o0, o1⟩ := fin_cells hst5 TT A5 c5; clear hb5 hb6 F5 l5 hst5)
                  refine wpAnyIn_ready (rs := [4, 5]) (by kernel_rfl) (by simp) ?_
                  refine AllReadyIn.cons rfl (fun K hK => ?_) ?_
                  · go_simp
                    refine hK _ _ ?_
                    clear hK K
                    refine wpAnyIn_ready (rs := [5]) (by kernel_rfl) (by simp) ?_
                    refine AllReadyIn.cons rfl (fun K hK => ?_) ?_
                    · go_simp
                      refine hK _ _ ?_
                      clear hK K
                      refine wpAnyIn_ready (rs := [6]) (by kernel_rfl) (by simp) ?_
                      refine AllReadyIn.cons rfl (fun K hK => ?_) ?_
                      · go_simp
                        refine hK _ _ ?_
                        clear hK K
                        refine wpAnyIn_done (by kernel_rfl) ?_ _
                        gi_wp2
                        refine call_end HCE.out.1 rfl HCE.out.2.1 rfl rfl rfl ⟨A5, c5, v, rfl, HL5.out, HCE.out.2.2.1, HCE.out.2.2.2.1, HCE.out.2.2.2.2⟩
                      exact AllReadyIn.nil
                    exact AllReadyIn.nil
                  refine AllReadyIn.cons rfl (fun K hK => ?_) ?_
                  · go_simp
                    refine hK _ _ ?_
                    clear hK K
                    refine wpAnyIn_ready (rs := [4]) (by kernel_rfl) (by simp) ?_
                    refine AllReadyIn.cons rfl (fun K hK => ?_) ?_
                    · go_simp
                      refine hK _ _ ?_
                      clear hK K
                      refine wpAnyIn_ready (rs := [6]) (by kernel_rfl) (by simp) ?_
                      refine AllReadyIn.cons rfl (fun K hK => ?_) ?_
                      · go_simp
                        refine hK _ _ ?_
                        clear hK K
                        refine wpAnyIn_done (by kernel_rfl) ?_ _
                        gi_wp2
                        refine call_end HCE.out.1 rfl HCE.out.2.1 rfl rfl rfl ⟨A5, c5, v, rfl, HL5.out, HCE.out.2.2.1, HCE.out.2.2.2.1, HCE.out.2.2.2.2⟩
                      exact AllReadyIn.nil
                    exact AllReadyIn.nil
                  exact AllReadyIn.nil
                refine AllReadyIn.cons rfl (fun K hK => ?_) ?_
                · go_simp
                  refine hK _ _ ?_
                  clear hK K
                  refine wpAnyIn_ready (rs := [3]) (by kernel_rfl) (by simp) ?_
                  refine AllReadyIn.cons rfl (fun K hK => ?_) ?_
                  · go_simp
                    gi_wp2_with (refine ⟨trivial, ?_⟩; gi_at_call 67; refine (callsIn_wide.2 HSU.out).mono ?_; rintro e w5 ⟨A5, c5, rfl, l5, F5, hb5⟩; have hb6 := bel_trans (bel_drew (Below.refl Wx.heap.size Wx)) hb5; have hst5 := HST3.out.below hb6; have HCE := Lib.hid (call_fin hst5 TT A5 c5 (N := Wx.heap.size) (D := D) (Kd.F_mono F5 (fun b hb => hb)) HN.out.2 HN.out.1 (by have h1 := HDD.out; have h2 := HSZ.out; have h3 := HLO.out; have h4 := HHI.out; omega) (blk_later hb6 HK.out)); have HL5 := Lib.hid l5; obtain ⟨z0, z1, z2, z3, z4, q0, q1, q2, q3, q4, o0, o1⟩ := fin_cells hst5 TT A5 c5; clear hb5 hb6 F5 l5 hst5)
                    refine wpAnyIn_ready (rs := [5]) (by kernel_rfl) (by simp) ?_
                    refine AllReadyIn.cons rfl (fun K hK => ?_) ?_
                    · go_simp
                      refine hK _ _ ?_
                      clear hK K
                      refine wpAnyIn_ready (rs := [6]) (by kernel_rfl) (by simp) ?_
                      refine AllReadyIn.cons rfl (fun K hK => ?_) ?_
                      · go_simp
                        refine hK _ _ ?_
                        clear hK K
                        refine wpAnyIn_done (by kernel_rfl) ?_ _
                        gi_wp2
                        refine call_end HCE.out.1 rfl HCE.out.2.1 rfl rfl rfl ⟨A5, c5, v, rfl, HL5.out, HCE.out.2.2.1, HCE.out.2.2.2.1, HCE.out.2.2.2.2⟩
                      exact AllReadyIn.nil
                    exact AllReadyIn.nil
                  exact AllReadyIn.nil
                exact AllReadyIn.nil
              refine AllReadyIn.cons rfl (fun K hK => ?_) ?_
              · go_simp
                refine hK _ _ ?_
                clear hK K
                refine wpAnyIn_ready (rs := [1]) (by kernel_rfl) (by simp) ?_
                refine AllReadyIn.cons rfl (fun K hK => ?_) ?_
                · go_simp
                  refine hK _ _ ?_
                  clear hK K
                  refine wpAnyIn_ready (rs := [3]) (by kernel_rfl) (by simp) ?_
                  refine AllReadyIn.cons rfl (fun K hK => ?_) ?_
                  · go_simp
                    gi_wp2_with (refine ⟨trivial, ?_⟩; gi_at_call 67; refine (callsIn_wide.2 HSU.out).mono ?_; rintro e w5 ⟨A5, c5, rfl, l5, F5, hb5⟩; have hb6 := bel_trans (bel_drew (Below.refl Wx.heap.size Wx)) hb5; have hst5 := HST3.out.below hb6; have HCE := Lib.hid (call_fin hst5 TT A5 c5 (N := Wx.heap.size) (D := D) (Kd.F_mono F5 (fun b hb => hb)) HN.out.2 HN.out.1 (by have h1 := HDD.out; have h2 := HSZ.out; have h3 := HLO.out; have h4 := HHI.out; omega) (blk_later hb6 HK.out)); have HL5 := Lib.hid l5; obtain ⟨z0, z1, z2, z3, z4, q0, q1, q2, q3, q4, o0, o1⟩ := fin_cells hst5 TT A5 c5; clear hb5 hb6 F5 l5 hst5)
                    refine wpAnyIn_ready (rs := [5]) (by kernel_rfl) (by simp) ?_
                    refine AllReadyIn.cons rfl (fun K hK => ?_) ?_
                    · go_simp
                      refine hK _ _ ?_
                      clear hK K
                      refine wpAnyIn_ready (rs := [6]) (by kernel_rfl) (by simp) ?_
                      refine AllReadyIn.cons rfl (fun K hK => ?_) ?_
                      · go_simp
                        refine hK _ _ ?_
                        clear hK K
                        refine wpAnyIn_done (by kernel_rfl) ?_ _
                        gi_wp2
                        refine call_end HCE.out.1 rfl HCE.out.2.1 rfl rfl rfl ⟨A5, c5, v, rfl, HL5.out, HCE.out.2.2.1, HCE.out.2.2.2.1, HCE.out.2.2.2.2⟩
                      exact AllReadyIn.nil
                    exact AllReadyIn.nil
                  exact AllReadyIn.nil
                exact AllReadyIn.nil
              exact AllReadyIn.nil
            refine AllReadyIn.cons rfl (fun K hK => ?_) ?_
            · go_simp
              refine hK _ _ ?_
              clear hK K
              refine wpAnyIn_ready (rs := [0]) (by kernel_rfl) (by simp) ?_
              refine AllReadyIn.cons rfl (fun K hK => ?_) ?_
              · go_simp
                refine hK _ _ ?_
                clear hK K
                refine wpAnyIn_ready (rs := [1]) (by kernel_rfl) (by simp) ?_
                refine AllReadyIn.cons rfl (fun K hK => ?_) ?_
                · go_simp
                  refine hK _ _ ?_
                  clear hK K
                  refine wpAnyIn_ready (rs := [3]) (by kernel_rfl) (by simp) ?_
                  refine AllReadyIn.cons rfl (fun K hK => ?_) ?_
                  · go_simp
                    gi_wp2_with (refine ⟨trivial, ?_⟩; gi_at_call 67; refine (callsIn_wide.2 HSU.out).mono ?_; rintro e w5 ⟨A5, c5, rfl, l5, F5, hb5⟩; have hb6 := bel_trans (bel_drew (Below.refl Wx.heap.size Wx)) hb5; have hst5 := HST3.out.below hb6; have HCE := Lib.hid (call_fin hst5 TT A5 c5 (N := Wx.heap.size) (D := D) (Kd.F_mono F5 (fun b hb => hb)) HN.out.2 HN.out.1 (by have h1 := HDD.out; have h2 := HSZ.out; have h3 := HLO.out; have h4 := HHI.out; omega) (blk_later hb6 HK.out)); have HL5 := Lib.hid l5; obtain ⟨z0, z1, z2, z3, z4, q0, q1, q2, q3, q4, o0, o1⟩ := fin_cells hst5 TT A5 c5; clear hb5 hb6 F5 l5 hst5)
                    refine wpAnyIn_ready (rs := [5]) (by kernel_rfl) (by simp) ?_
                    refine AllReadyIn.cons rfl (fun K hK => ?_) ?_
                    · go_simp
                      refine hK _ _ ?_
                      clear hK K
                      refine wpAnyIn_ready (rs := [6]) (by kernel_rfl) (by simp) ?_
                      refine AllReadyIn.cons rfl (fun K hK => ?_) ?_
                      · go_simp
                        refine hK _ _ ?_
                        clear hK K
                        refine wpAnyIn_done (by kernel_rfl) ?_ _
                        gi_wp2
                        refine call_end HCE.out.1 rfl HCE.out.2.1 rfl rfl rfl ⟨A5, c5, v, rfl, HL5.out, HCE.out.2.2.1, HCE.out.2.2.2.1, HCE.out.2.2.2.2⟩
                      exact AllReadyIn.nil
                    exact AllReadyIn.nil
                  exact AllReadyIn.nil
                exact AllReadyIn.nil
              exact AllReadyIn.nil
            exact AllReadyIn.nil
          refine AllReadyIn.cons rfl (fun K hK => ?_) ?_
          · go_simp
            refine hK _ _ ?_
            clear hK K
            refine wpAnyIn_ready (rs := [0, 2]) (by kernel_rfl) (by simp) ?_
            refine AllReadyIn.cons rfl (fun K hK => ?_) ?_
            · go_simp
              refine hK _ _ ?_
              clear hK K
              refine wpAnyIn_ready (rs := [1, 2]) (by kernel_rfl) (by simp) ?_
              refine AllReadyIn.cons rfl (fun K hK => ?_) ?_
              · go_simp
                refine hK _ _ ?_
                clear hK K
                refine wpAnyIn_ready (rs := [2]) (by kernel_rfl) (by simp) ?_
                refine AllReadyIn.cons rfl (fun K hK => ?_) ?_
                · go_simp
                  refine hK _ _ ?_
                  clear hK K
                  refine wpAnyIn_ready (rs := [3]) (by kernel_rfl) (by simp) ?_
                  refine AllReadyIn.cons rfl (fun K hK => ?_) ?_
                  · go_simp
                    gi_wp2_with (refine ⟨trivial, ?_⟩; gi_at_call 67; refine (callsIn_wide.2 HSU.out).mono ?_; rintro e w5 ⟨A5, c5, rfl, l5, F5, hb5⟩; have hb6 := bel_trans (bel_drew (Below.refl Wx.heap.size Wx)) hb5; have hst5 := HST3.out.below hb6; have HCE := Lib.hid (call_fin hst5 TT A5 c5 (N := Wx.heap.size) (D := D) (Kd.F_mono F5 (fun b hb => hb)) HN.out.2 HN.out.1 (by have h1 := HDD.out; have h2 := HSZ.out; have h3 := HLO.out; have h4 := HHI.out; omega) (blk_later hb6 HK.out)); have HL5 := Lib.hid l5; obtain ⟨z0, z1, z2, z3, z4, q0, q1, q2, q3, q4, o0, o1⟩ := fin_cells hst5 TT A5 c5; clear hb5 hb6 F5 l5 hst5)
                    refine wpAnyIn_ready (rs := [5]) (by kernel_rfl) (by simp) ?_
                    refine AllReadyIn.cons rfl (fun K hK => ?_) ?_
                    · go_simp
                      refine hK _ _ ?_
                      clear hK K
                      refine wpAnyIn_ready (rs := [6]) (by kernel_rfl) (by simp) ?_
                      refine AllReadyIn.cons rfl (fun K hK => ?_) ?_
                      · go_simp
                        refine hK _ _ ?_
                        clear hK K
                        refine wpAnyIn_done (by kernel_rfl) ?_ _
                        gi_wp2
                        refine call_end HCE.out.1 rfl HCE.out.2.1 rfl rfl rfl ⟨A5, c5, v, rfl, HL5.out, HCE.out.2.2.1, HCE.out.2.2.2.1, HCE.out.2.2.2.2⟩
                      exact AllReadyIn.nil
                    exact AllReadyIn.nil
                  exact AllReadyIn.nil
                exact AllReadyIn.nil
              refine AllReadyIn.cons rfl (fun K hK => ?_) ?_
              · go_simp
                refine hK _ _ ?_
                clear hK K
                refine wpAnyIn_ready (rs := [1]) (by kernel_rfl) (by simp) ?_
                refine AllReadyIn.cons rfl (fun K hK => ?_) ?_
                · go_simp
                  refine hK _ _ ?_
                  clear hK K
                  refine wpAnyIn_ready (rs := [3]) (by kernel_rfl) (by simp) ?_
                  refine AllReadyIn.cons rfl (fun K hK => ?_) ?_
                  · go_simp
                    gi_wp2_with (refine ⟨trivial, ?_⟩; gi_at_call 67; refine (callsIn_wide.2 HSU.out).mono ?_; rintro e w5 ⟨A5, c5, rfl, l5, F5, hb5⟩; have hb6 := bel_trans (bel_drew (Below.refl Wx.heap.size Wx)) hb5; have hst5 := HST3.out.below hb6; have HCE := Lib.hid (call_fin hst5 TT A5 c5 (N := Wx.heap.size) (D := D) (Kd.F_mono F5 (fun b hb => hb)) HN.out.2 HN.out.1 (by have h1 := HDD.out; have h2 := HSZ.out; have h3 := HLO.out; have h4 := HHI.out; omega) (blk_later hb6 HK.out)); have HL5 := Lib.hid l5; obtain ⟨z0, z1, z2, z3, z4, q0, q1, q2, q3, q4, o0, o1⟩ := fin_cells hst5 TT A5 c5; clear hb5 hb6 F5 l5 hst5)
                    refine wpAnyIn_ready (rs := [5]) (by kernel_rfl) (by simp) ?_
                    refine AllReadyIn.cons rfl (fun K hK => ?_) ?_
                    · go_simp
                      refine hK _ _ ?_
                      clear hK K
                      refine wpAnyIn_ready (rs := [6]) (by kernel_rfl) (by simp) ?_
                      refine AllReadyIn.cons rfl (fun K hK => ?_) ?_
                      · go_simp
                        refine hK _ _ ?_
                        clear hK K
                        refine wpAnyIn_done (by kernel_rfl) ?_ _
                        gi_wp2
                        refine call_end HCE.out.1 rfl HCE.out.2.1 rfl rfl rfl ⟨A5, c5, v, rfl, HL5.out, HCE.out.2.2.1, HCE.out.2.2.2.1, HCE.out.2.2.2.2⟩
                      exact AllReadyIn.nil
                    exact AllReadyIn.nil
                  exact AllReadyIn.nil
                exact AllReadyIn.nil
              exact AllReadyIn.nil
            refine AllReadyIn.cons rfl (fun K hK => ?_) ?_
            · go_simp
              refine hK _ _ ?_
              clear hK K
              refine wpAnyIn_ready (rs := [0]) (by kernel_rfl) (by simp) ?_
              refine AllReadyIn.cons rfl (fun K hK => ?_) ?_
              · go_simp
                refine hK _ _ ?_
                clear hK K
                refine wpAnyIn_ready (rs := [1]) (by kernel_rfl) (by simp) ?_
                refine AllReadyIn.cons rfl (fun K hK => ?_) ?_
                · go_simp
                  refine hK _ _ ?_
                  clear hK K
                  refine wpAnyIn_ready (rs := [3]) (by kernel_rfl) (by simp) ?_
                  refine AllReadyIn.cons rfl (fun K hK => ?_) ?_
                  · go_simp
                    gi_wp2_with (refine ⟨trivial, ?_⟩; gi_at_call 67; refine (callsIn_wide.2 HSU.out).mono ?_; rintro e w5 ⟨A5, c5, rfl, l5, F5, hb5⟩; have hb6 := bel_trans (bel_drew (Below.refl Wx.heap.size Wx)) hb5; have hst5 := HST3.out.below hb6; have HCE := Lib.hid (call_fin hst5 TT A5 c5 (N := Wx.heap.size) (D := D) (Kd.F_mono F5 (fun b hb => hb)) HN.out.2 HN.out.1 (by have h1 := HDD.out; have h2 := HSZ.out; have h3 := HLO.out; have h4 := HHI.out; omega) (blk_later hb6 HK.out)); have HL5 := Lib.hid l5; obtain ⟨z0, z1, z2, z3, z4, q0, q1, q2, q3, q4, o0, o1⟩ := fin_cells hst5 TT A5 c5; clear hb5 hb6 F5 l5 hst5)
                    refine wpAnyIn_ready (rs := [5]) (by kernel_rfl) (by simp) ?_
                    refine AllReadyIn.cons rfl (fun K hK => ?_) ?_
                    · go_simp
                      refine hK _ _ ?_
                      clear hK K
                      refine wpAnyIn_ready (rs := [6]) (by kernel_rfl) (by simp) ?_
                      refine AllReadyIn.cons rfl (fun K hK => ?_) ?_
                      · go_simp
                        refine hK _ _ ?_
                        clear hK K
                        refine wpAnyIn_done (by kernel_rfl) ?_ _
                        gi_wp2
                        refine call_end HCE.out.1 rfl HCE.out.2.1 rfl rfl rfl ⟨A5, c5, v, rfl, HL5.out, HCE.out.2.2.1, HCE.out.2.2.2.1, HCE.out.2.2.2.2⟩
                      exact AllReadyIn.nil
                    exact AllReadyIn.nil
                  exact AllReadyIn.nil
                exact AllReadyIn.nil
              exact AllReadyIn.nil
            exact AllReadyIn.nil
          exact AllReadyIn.nil
end Go.Proofs.Ytbhagjhhgmmcgaa
