/- Tokens that came in: read, and appended. -/
import Derived.Test.YtlmggfbpdciioaaDoorTxL
import Derived.Deep.Slices
import Derived.Deep.Strs
import Derived.Lib.SmallJoins
import Derived.SizedLaws
namespace Go.Proofs.YtlmggfbpdciioaaDoor
open Go.RowKit PRef Go.Proofs.YtlmggfbpdciioaaDoorW.PrintWords Go.WideShapes Go.Deep Go.ChangeShapes Go.Joins
set_option linter.unusedVariables false
set_option linter.unusedSimpArgs false

theorem open_tok {H : Type} {ec : TypeId × Value → H} {w : World} {base : Nat} {spare : Nat → Bool} {held : Bool} (n : Nat) (cs : List Value) (y : DataW H × List MemPlace) (h : DataW.trod ec Tryd.prog w base spare held n 31 cs = some y) : ∃ a : S31, cs = s31C a ∧ a.f3.size ≤ 9223372036854775807 := by
  obtain ⟨y0, y1, y2, y3, k, _, hl, h0, h1, h2, h3⟩ := trod_struct4 Tryd.underlying31 h
  have hc : Tryd.prog.cellsOf 31 = 4 := by kernel_rfl
  rw [hc] at hl
  match cs, hl with
  | [a, b, c, d], _ =>
    have k0 : Tryd.prog.cellsOf 3 = 1 := by kernel_rfl
    have k1 : Tryd.prog.cellsOf 9 = 1 := by kernel_rfl
    obtain ⟨s0, e0, _, _⟩ := DataW.trod_int Tryd.underlying3 h0
    obtain ⟨s1, e1, _, _⟩ := DataW.trod_int Tryd.underlying3 h1
    obtain ⟨s2, e2, _, _⟩ := DataW.trod_int Tryd.underlying3 h2
    obtain ⟨s3, e3, _, hs⟩ := DataW.trod_string Tryd.underlying9 h3
    simp only [k0, k1, List.drop, List.take] at e0 e1 e2 e3
    injection e0 with e0
    injection e1 with e1
    injection e2 with e2
    injection e3 with e3
    exact ⟨⟨s0, s1, s2, s3⟩, by rw [e0, e1, e2, e3]; rfl, hs⟩

/-- A []api.Token that came in. -/
theorem open_toks0 {H : Type} {ec : TypeId × Value → H} {w : World} {base : Nat} {held : Bool} {r : Reach} {b0 : Nat} {v : Value} {d : DataW H} {p : List MemPlace}
    (hv : Value.okWide Tryd.prog w r b0 23 v) (h : DataW.Trod ec Tryd.prog w base (fun _ => true) held 23 v d p) :
    ∃ (A : Option Addr) (l : List S31) (c : Nat), v = .slice A l.length c ∧ l.length ≤ c ∧ (∀ t ∈ l, t.f3.size ≤ 9223372036854775807) ∧ Kd.C k31 w A l.length l ∧ (l = [] ∨ ∃ E S, d = .slice E S ∧ E.length = l.length ∧ E.length + S.length = c) := by
  obtain ⟨A, n, c, rfl⟩ := okWide_slice Tryd.underlying23 hv
  obtain ⟨k, hk⟩ := h
  rcases open_slice Tryd.underlying23 hk with ⟨h0, _⟩ | ⟨a, len, cap, m, k', D, Pl, h0, hb, hle, hm, hmm, hd, hel⟩
  · injection h0 with h0 _
    injection h0 with h1 h2 h3
    subst h1 h2 h3
    exact ⟨none, [], 0, rfl, Nat.le_refl _, by simp, ⟨rfl, by simp, fun h => by simp at h⟩, .inl rfl⟩
  · injection h0 with h0 _
    injection h0 with h1 h2 h3
    subst h1 h2 h3
    simp only [if_true] at hmm
    subst hmm
    have hsz : Tryd.prog.cellsOf 31 = 4 := by kernel_rfl
    have hx : ∀ i : Fin n, ∃ y : S31, w.cells? base (a.add (i.1 * Tryd.prog.cellsOf 31)) (Tryd.prog.cellsOf 31) = some (s31C y) ∧ y.f3.size ≤ 9223372036854775807 := by
      intro i
      obtain ⟨cs', h1, h2⟩ := hel i.1 (by have := i.2; omega)
      obtain ⟨y, rfl, hs⟩ := open_tok _ _ _ h2
      exact ⟨y, h1, hs⟩
    obtain ⟨f, hf⟩ := Classical.axiomOfChoice hx
    refine ⟨some a, List.ofFn f, m, by rw [List.length_ofFn], by rw [List.length_ofFn]; exact hle, ?_, ⟨by rw [List.length_ofFn], by rw [List.length_ofFn]; simp only [maxLen] at hm; omega, fun _ => ⟨a, rfl, fun j p hp => ⟨s31C p, rfl, k31_mk w p, fun i u hu => ?_⟩⟩⟩, .inr ⟨_, _, congrArg Prod.fst hd, by simp, by simp; omega⟩⟩
    · intro t ht
      obtain ⟨i, rfl⟩ : ∃ i, f i = t := by simpa [List.mem_ofFn] using ht
      exact (hf i).2
    · rw [List.getElem?_ofFn] at hp
      split at hp
      · rename_i hj
        injection hp with hp
        obtain ⟨_, _, hc⟩ := World.cells?_some (hf ⟨j, hj⟩).1
        rw [hp] at hc
        have hi : i < 4 := (List.getElem?_eq_some_iff.1 hu).1
        have h2 := hc i (by rw [hsz]; exact hi)
        rw [Addr.add_add, hsz] at h2
        show w.cell? (a.add (j * 4 + i)) = some u
        rw [h2]
        exact hu
      · cases hp
theorem open_toks {H : Type} {ec : TypeId × Value → H} {w : World} {base : Nat} {held : Bool} {r : Reach} {b0 : Nat} {v : Value} {d : DataW H} {p : List MemPlace}
    (hw : ∀ n ∈ d.weights Tryd.prog 23, n ≤ reachBytes) (hv : Value.okWide Tryd.prog w r b0 23 v) (h : DataW.Trod ec Tryd.prog w base (fun _ => true) held 23 v d p) :
    ∃ (A : Option Addr) (l : List S31) (c : Nat), v = .slice A l.length c ∧ l.length ≤ c ∧ l.length * 40 ≤ 140737488351232 ∧ (∀ t ∈ l, t.f3.size ≤ 9223372036854775807) ∧ Kd.C k31 w A l.length l := by
  obtain ⟨A, l, c, h1, h2, h3, h4, h5⟩ := open_toks0 hv h
  refine ⟨A, l, c, h1, h2, ?_, h3, h4⟩
  rcases h5 with rfl | ⟨E, S, rfl, h6, h7⟩
  · simp
  · have hby : Tryd.prog.bytesOf 31 = 40 := by kernel_rfl
    have hwt := hw ((E.length + S.length) * Tryd.prog.bytesOf 31) (by
      simp only [DataW.weights, Tryd.underlying23]
      exact List.mem_cons_self)
    rw [hby, h7] at hwt
    have hr : reachBytes = 140737488351232 := by decide
    rw [hr] at hwt
    omega

theorem C_flat {w : World} {ad : Addr} {xs : List S31} (h : Kd.C k31 w (some ad) xs.length xs) (j : Nat) (u : Value) (hu : (xs.flatMap s31C)[j]? = some u) : w.cell? (ad.add j) = some u := by
  have hlen : (xs.flatMap s31C).length = xs.length * 4 := by
    clear h hu
    induction xs with
    | nil => rfl
    | cons x r ih => rw [List.flatMap_cons, List.length_append, ih, List.length_cons, Nat.add_mul]; show 4 + _ = _; omega
  have hj : j < xs.length * 4 := by rw [← hlen]; exact (List.getElem?_eq_some_iff.1 hu).1
  have hq : j / 4 < xs.length := by omega
  have h1 := flat_get s31C 4 (fun _ => rfl) xs (j / 4) (j % 4) xs[j / 4] (List.getElem?_eq_getElem hq) (Nat.mod_lt _ (by decide))
  rw [Nat.div_add_mod' j 4, hu] at h1
  obtain ⟨ad', e, hc⟩ := h.2.2 (by omega)
  injection e with e
  subst e
  obtain ⟨cs, _, hK, hcell⟩ := hc (j / 4) _ (List.getElem?_eq_getElem hq)
  obtain rfl := k31_open hK
  have h2 := hcell (j % 4) u h1.symm
  have h3 : j / 4 * k31.sz + j % 4 = j := Nat.div_add_mod' j 4
  rw [h3] at h2
  exact h2
theorem info31' : (Tryd.prog.info? 31).map (fun i => (i.zero, i.size, i.bytes)) = some (some (.agg #[.int .i64 0, .int .i64 0, .int .i64 0, .string ⟨#[]⟩]), 4, 40) := by kernel_rfl
/-- append of tokens to a row of the call's own. -/
theorem append_toks {ops : Array Oper} {rest : List Oper} {o : Oper} {a : Act} {Q : Exit → Act → World → Prop} {w : World} (hgd : o.guard = none) (s x : Operand)
    (ho : o.op = .call { callee := .builtin .append, args := #[s, x], argTypes := #[23, 23] }) (base : Nat) (v : Value) (xs : List S31) (hs : a.eval s = v) (hown : w.ownsRow base 31 4 v xs.length (xs.flatMap s31C))
    (A : Option Addr) (L : List S31) (c : Nat) (hx : a.eval x = .slice A L.length c) (hC : Kd.C k31 w A L.length L) (hb : (xs.length + L.length) * 40 ≤ 140737488355328) (hbase : base ≤ w.heap.size)
    (h : ∀ v' w', w'.ownsRow base 31 4 v' (xs ++ L).length ((xs ++ L).flatMap s31C) → w.grownBy w' v.ownBlock → wpList Tryd.prog ops Q rest (a.put o.dst v') w') : wpList Tryd.prog ops Q (o :: rest) a w := by
  obtain ⟨i, hi, hz0, hz1, hz2⟩ := info_parts info31'
  rcases A with _ | ad
  · have hl0 : L = [] := by
      apply List.eq_nil_of_length_eq_zero
      apply Classical.byContradiction
      intro hn
      obtain ⟨_, e, _⟩ := hC.2.2 (by omega)
      cases e
    subst hl0
    have hrun : (Builtin.append_ #[23, 23] o.type #[v, .slice none 0 c]).run Tryd.prog w = .ok v w := by
      rcases hown.2 with ⟨rfl, h0⟩ | ⟨g, cap, cur, rfl, _, _, hnc, _⟩
      · simp [Builtin.append_, run_underlying Tryd.underlying23, sizeOf, typeInfo, hi, Builtin.lenOf, Builtin.firstCells]
      · simp [Builtin.append_, run_underlying Tryd.underlying23, sizeOf, typeInfo, hi, Builtin.lenOf, Builtin.firstCells, hnc, storeCells]
    refine wpList_plain hgd fun K hK => ?_
    unfold Oper.wp execOp
    simp only [ho, resolve, invoke, builtin, Sem.run_bind, Sem.run_pure, Result.andThen_ok, List.map_toArray, List.map_cons, List.map_nil, hs, hx, List.length_nil, hrun]
    exact hK _ _ (h v w (by simpa using hown) (World.grownBy.refl w _))
  · refine wpList_append_own _ hgd s x 23 ho base 31 i _ 4 40 Tryd.underlying23 hi hz0 hz1 hz2 rfl (by decide) v xs.length _ hs hown ad L.length c (L.flatMap s31C) hx ?_ (C_flat hC) ?_ ?_ hb hbase ?_
    · clear hx hC hb h
      induction L with
      | nil => rfl
      | cons y r ih => rw [List.flatMap_cons, List.length_append, ih, List.length_cons, Nat.add_mul]; show 4 + _ = _; omega
    · intro u hu
      obtain ⟨y, _, hy⟩ := List.mem_flatMap.1 hu
      unfold s31C at hy
      simp only [List.mem_cons, List.not_mem_nil, or_false] at hy
      rcases hy with rfl | rfl | rfl | rfl <;> rfl
    · unfold maxLen; omega
    · intro v' w' h1 h2 _
      exact h v' w' (by rw [List.length_append, List.flatMap_append]; exact h1) h2
end Go.Proofs.YtlmggfbpdciioaaDoor
