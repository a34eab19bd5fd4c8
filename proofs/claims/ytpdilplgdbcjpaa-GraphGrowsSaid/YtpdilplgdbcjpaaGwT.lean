/- GraphGrows: the walk. -/
import Derived.Test.YtpdilplgdbcjpaaGwN
import Derived.Deep.AppendLies
namespace Go.Proofs.Ytpdilplgdbcjpaa
open Go.RowKit Go.Maps Go.WideMaps PRef Go.Proofs.YtpdilplgdbcjpaaW.PrintWords Go.Shelf
set_option linter.unusedVariables false
set_option linter.unusedSimpArgs false

/-- The cells of a row of nodes. -/
structure RowN (W : World) (A : Option Addr) (rns : List RN) : Prop where
  nil : A = none → rns = []
  cell : ∀ ad, A = some ad → ∀ q u, (rns.flatMap rnC)[q]? = some u → W.cell? (ad.add q) = some u
theorem RowN.later {W W1 : World} {A : Option Addr} {rns : List RN} (h : RowN W A rns) (hb : Below W.heap.size W W1) : RowN W1 A rns := ⟨h.nil, fun ad e q u hq => cell_later hb (h.cell ad e q u hq)⟩
theorem flat_at : ∀ (rns : List RN) (q : Nat) (u : Value), (rns.flatMap rnC)[q]? = some u → ∃ r, rns[q / 2]? = some r ∧ (rnC r)[q % 2]? = some u
  | [], q, u, h => by simp at h
  | a :: r, 0, u, h => ⟨a, rfl, by simpa [rnC] using h⟩
  | a :: r, 1, u, h => ⟨a, rfl, by simpa [rnC] using h⟩
  | a :: r, q + 2, u, h => by
    have h' : (r.flatMap rnC)[q]? = some u := by
      rw [List.flatMap_cons] at h
      simpa [rnC] using h
    obtain ⟨x, h1, h2⟩ := flat_at r q u h'
    refine ⟨x, ?_, ?_⟩
    · rw [show (q + 2) / 2 = q / 2 + 1 by omega]; simpa using h1
    · rw [show (q + 2) % 2 = q % 2 by omega]; exact h2
/-- A row of nodes that came in: its raw nodes. -/
theorem rows_of {w : World} {A : Option Addr} {g : List Gr.Nd} (hC : Kd.C k36 w A (g.map ofNd).length (g.map ofNd)) : ∃ rns : List RN, rns.map (·.nd) = g ∧ (∀ r ∈ rns, RNok w r) ∧ RowN w A rns := by
  have hk : ∀ i : Fin g.length, ∃ p : Option Addr × Nat, RNok w ⟨g[i], p.1, p.2⟩ ∧ ∀ ad, A = some ad → w.cell? (ad.add (i.1 * 2)) = some (.string (ba g[i].name)) ∧ w.cell? (ad.add (i.1 * 2 + 1)) = some (.slice p.1 g[i].imps.length p.2) := fun i => by
    obtain ⟨ad, A1, c1, e, x0, x1, hr⟩ := C_node hC (List.getElem?_eq_getElem i.2)
    refine ⟨(A1, c1), hr, fun ad' e' => ?_⟩
    rw [e] at e'
    cases e'
    exact ⟨x0, by rw [← add_field _ _ 1 (by omega)] at x1; exact x1⟩
  obtain ⟨f, hf⟩ := Classical.axiomOfChoice hk
  refine ⟨List.ofFn fun i : Fin g.length => ⟨g[i], (f i).1, (f i).2⟩, ?_, ?_, ?_, ?_⟩
  · apply List.ext_getElem
    · simp
    · intro i h1 h2
      simp
  · intro r hr
    obtain ⟨i, rfl⟩ := (List.mem_ofFn).1 hr
    exact (hf i).1
  · intro hA
    have : g = [] := by
      cases g with
      | nil => rfl
      | cons x r =>
        obtain ⟨ad, _, _, e, _⟩ := C_node hC (k := 0) rfl
        rw [hA] at e; cases e
    subst this
    rfl
  · intro ad e q u hq
    obtain ⟨r, h1, h2⟩ := flat_at _ q u hq
    have hlt := lt_len h1
    rw [List.length_ofFn] at hlt
    rw [List.getElem?_ofFn, dif_pos hlt] at h1
    obtain rfl := Option.some.inj h1
    obtain ⟨y0, y1⟩ := (hf ⟨q / 2, hlt⟩).2 ad e
    rcases Nat.mod_two_eq_zero_or_one q with hm | hm
    · rw [hm] at h2
      have hu : u = .string (ba g[q / 2].name) := by simpa [rnC] using h2.symm
      rw [hu]
      dsimp only at y0
      rw [show q / 2 * 2 = q by omega] at y0
      exact y0
    · rw [hm] at h2
      have hu : u = .slice (f ⟨q / 2, hlt⟩).1 g[q / 2].imps.length (f ⟨q / 2, hlt⟩).2 := by simpa [rnC] using h2.symm
      rw [hu]
      dsimp only at y1
      rw [show q / 2 * 2 + 1 = q by omega] at y1
      exact y1
theorem RowN.single {W : World} {b : Nat} {r : RN} {t : TypeId} {fr : Nat × Nat} (hb : W.heap[b]? = some (.cells #[.string (ba r.nd.name), .slice r.A r.nd.imps.length r.c] t fr)) : RowN W (some ⟨b, 0, none⟩) [r] where
  nil := fun e => by cases e
  cell := fun ad e q u hq => by
    cases e
    rw [add_at, Nat.zero_add, blk_cell hb, ← Array.getElem?_toList]
    simpa [rnC] using hq
theorem ownN_lit {W : World} {base g : Nat} (h : W.heap[g]? = some (.cells #[] 36 (0, 0))) (hb : base ≤ g) : W.ownsRow base 36 2 (.slice (some ⟨g, 0, none⟩) 0 0) 0 [] := ⟨rfl, .inr ⟨g, 0, #[], rfl, hb, h, Nat.le_refl _, Nat.zero_le _, rfl, rfl⟩⟩
theorem blk_newN (W : World) (o : Obj) (n : Nat) (h : W.heap.size = n) : (W.alloc o).heap[n]? = some o := by subst h; exact blk_new W o
theorem own_drewl {w w' : World} {base : Nat} {e : TypeId} {size n : Nat} {v : Value} {xs : List Value} (h : w.ownsRow base e size v n xs) (hb : Below w.heap.size w w') : w'.ownsRow base e size v n xs := own_later h hb
theorem with_fact {T G : Prop} (h : T) (k : T → G) : G := k h
theorem blk_drew {W : World} {b : Nat} {o : Obj} (h : W.heap[b]? = some o) : W.drew.heap[b]? = some o := h
theorem rnC_one : ∀ (l : List RN), ∀ u ∈ l.flatMap rnC, u.oneCell' = true := by
  intro l u hu
  obtain ⟨r, _, hr⟩ := List.mem_flatMap.1 hu
  simp only [rnC, List.mem_cons, List.not_mem_nil, or_false] at hr
  rcases hr with rfl | rfl <;> rfl
theorem step_append_nds {ops : Array Oper} {o : Oper} {a : Act} {K : Act → World → Prop} {Q : Exit → Act → World → Prop} {E : Prop} {w W8 : World} (hgd : o.guard = none) (s x : Operand)
    (ho : o.op = .call { callee := .builtin .append, args := #[s, x], argTypes := #[22, 22] }) (v : Value) (n : Nat) (xs : List Value) (hs : a.eval s = v)
    (A : Option Addr) (L : List RN) (c : Nat) (m : Nat) (hm : m = L.length) (hx : a.eval x = .slice A m c) (hb : (n + m) * 40 ≤ 140737488355328) (hown : w.ownsRow W8.heap.size 36 2 v n xs) (hR : RowN w A L) (hbel : Below W8.heap.size W8 w)
    (h : ∀ v' w', w'.ownsRow W8.heap.size 36 2 v' (n + m) (xs ++ L.flatMap rnC) → Below W8.heap.size W8 w' → (∀ (b : Nat) (ob : Obj), w.heap[b]? = some ob → v.ownBlock ≠ some b → w'.heap[b]? = some ob ∧ v'.ownBlock ≠ some b) → K (a.put o.dst v') w') : if Region.wanted o (yielded ops a.tmps) = true then Oper.wp Try.prog o a w K Q else E := by
  subst hm
  have hw : Region.wanted o (yielded ops a.tmps) = true := by simp [Region.wanted, hgd]
  rw [if_pos hw]
  obtain ⟨i, hi, hz0, hz1, hz2⟩ := info_parts info36
  by_cases hl0 : L = []
  · subst hl0
    have hrun : (Builtin.append_ #[22, 22] o.type #[v, .slice A 0 c]).run Try.prog w = .ok v w := by
      rcases hown.2 with ⟨rfl, h0⟩ | ⟨g, cap, cur, rfl, _, _, hnc, _⟩
      · cases A <;> simp [Builtin.append_, run_underlying Try.underlying22, sizeOf, typeInfo, hi, Builtin.lenOf, Builtin.firstCells, loadCells, loadCellsFrom, storeCells]
      · cases A <;> simp [Builtin.append_, run_underlying Try.underlying22, sizeOf, typeInfo, hi, Builtin.lenOf, Builtin.firstCells, hnc, loadCells, loadCellsFrom, storeCells]
    unfold Oper.wp execOp
    simp only [ho, resolve, invoke, builtin, Sem.run_bind, Sem.run_pure, Result.andThen_ok, List.map_toArray, List.map_cons, List.map_nil, hs, hx, List.length_nil, hrun]
    exact h v w (by simpa using hown) hbel (fun b ob hb hv => ⟨hb, hv⟩)
  · have hpos : 0 < L.length := List.length_pos_iff.2 hl0
    rcases A with _ | ad
    · exact absurd (hR.nil rfl) hl0
    · refine wp_append_lies w s x 22 ho W8.heap.size 36 i _ 2 40 Try.underlying22 hi hz0 hz1 hz2 rfl (by decide) v n xs hs hown ad L.length c (L.flatMap rnC) hx ?_ (hR.cell ad rfl) (rnC_one L) hpos ?_ hb hbel.size w.heap.size rfl ?_
      · exact rnC_len L
      · unfold maxLen; omega
      · intro g cap w' h1 h2 h3 h4
        refine h _ w' h1 (hbel.grown h2 hbel.size (fun k hk => own_base hown k hk)) (fun b ob hb hv => ⟨(h2.block b (blk_lt hb) (fun e => hv e.symm)).trans hb, fun e => ?_⟩)
        have e2 : g = b := by simpa [Value.ownBlock] using e
        subst e2
        rcases h3 with h3 | h3
        · exact hv h3
        · have := blk_lt hb
          omega
end Go.Proofs.Ytpdilplgdbcjpaa
