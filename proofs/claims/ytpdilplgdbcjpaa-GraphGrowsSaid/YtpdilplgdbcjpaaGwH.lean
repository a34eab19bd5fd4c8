/- The document's functions on graphs: contracts over names. -/
import Derived.Test.YtpdilplgdbcjpaaGwG
namespace Go.Proofs.Ytpdilplgdbcjpaa
open Go.RowKit Go.Maps Go.WideMaps PRef Go.Proofs.YtpdilplgdbcjpaaW.PrintWords Go.Shelf
set_option linter.unusedVariables false

theorem own_of {W : World} {base : Nat} {v : Value} {ok : Nat → Prop} {l : List Str} (h : Kd.R Kd.string 9 W base ok v (l.map ba)) : W.ownsRow base 9 1 v l.length (l.map encStr) := by
  have h1 := Kd.own_of_R h
  unfold encs at h1
  rw [List.length_map, List.map_map] at h1
  exact h1
/-- The document's place in a row. -/
abbrev RowR (w : World) (l : List Str) (e : Ending) (W : World) : Prop := ∃ v, e = .returned v ∧ W.ownsRow w.heap.size 9 1 v l.length (l.map encStr) ∧ Below w.heap.size w W
theorem has_any (L : List Str) (s : Str) (A : Option Addr) (c : Nat) (w : World) (hC : Kd.string.C w A (L.map ba).length (L.map ba)) (hc : L.length ≤ c) (hL : L.length ≤ big) :
    Calls Try.prog 27 #[.slice A L.length c, .string (ba s)] w fun e w' => e = .returned (.bool (decide (s ∈ L))) ∧ Below w.heap.size w w' := by
  obtain ⟨k, hk⟩ := (has_f L s hL).rounds
  have := quoinref08_Has.calls k A c (L.map ba) (ba s) _ w hC (by rw [List.length_map]; exact hc) hk
  rw [List.length_map] at this
  exact this.mono fun e w' h => ⟨h.1, drawn_bel h.2⟩
theorem place_any (L : List Str) (s : Str) (A : Option Addr) (c : Nat) (w : World) (hC : Kd.string.C w A (L.map ba).length (L.map ba)) (hc : L.length ≤ c) (hL : L.length ≤ big) :
    Calls Try.prog 21 #[.slice A L.length c, .string (ba s)] w fun e w' => e = .returned (.int .i64 (Gr.placeP L s)) ∧ Below w.heap.size w w' := by
  obtain ⟨k, hk⟩ := (place_f L s hL).rounds
  have := quoinlaw08_place.calls k A c (L.map ba) (ba s) _ w hC (by rw [List.length_map]; exact hc) hk
  rw [List.length_map] at this
  exact this.mono fun e w' h => ⟨h.1, drawn_bel h.2⟩
theorem same_any (L M : List Str) (A B : Option Addr) (c d : Nat) (w : World) (hC : Kd.string.C w A (L.map ba).length (L.map ba)) (hc : L.length ≤ c) (hD : Kd.string.C w B (M.map ba).length (M.map ba)) (hd : M.length ≤ d) (hL : L.length ≤ big) :
    Calls Try.prog 14 #[.slice A L.length c, .slice B M.length d] w fun e w' => e = .returned (.bool (decide (L = M))) ∧ Below w.heap.size w w' := by
  obtain ⟨k, hk⟩ := (same_f L M hL).rounds
  have := quoinref08_Same.calls k A c (L.map ba) B d (M.map ba) _ w hC (by rw [List.length_map]; exact hc) hD (by rw [List.length_map]; exact hd) hk
  rw [List.length_map, List.length_map] at this
  exact this.mono fun e w' h => ⟨h.1, drawn_bel h.2⟩
theorem with_any (L : List Str) (s : Str) (A : Option Addr) (c : Nat) (w : World) (hC : Kd.string.C w A (L.map ba).length (L.map ba)) (hc : L.length ≤ c) (hL : L.length ≤ big) :
    Calls Try.prog 28 #[.slice A L.length c, .string (ba s)] w (RowR w (Gr.withS L s)) := by
  obtain ⟨k, hk⟩ := (with_f L s hL).rounds
  have := quoinref08_With.calls k A c (L.map ba) (ba s) _ w hC (by rw [List.length_map]; exact hc) hk
  rw [List.length_map] at this
  exact this.mono fun e w' h => by obtain ⟨v, h1, h2, h3⟩ := h; exact ⟨v, h1, own_of h2, h3⟩
section
variable (l : List Gr.Nd) (A : Option Addr) (c : Nat) (w : World) (hC : Kd.C k36 w A (l.map ofNd).length (l.map ofNd)) (hc : l.length ≤ c) (hl : l.length ≤ big)
include hC hc hl
theorem rnames_any : Calls Try.prog 22 #[.slice A l.length c] w (RowR w (Gr.names l)) := by
  obtain ⟨k, hk⟩ := (names_f l hl).rounds
  have := quoinref08_Names.calls k A c (l.map ofNd) _ w hC (by rw [List.length_map]; exact hc) hk
  rw [List.length_map] at this
  exact this.mono fun e w' h => by obtain ⟨v, h1, h2, h3⟩ := h; exact ⟨v, h1, own_of h2, h3⟩
theorem rnodes_any : Calls Try.prog 26 #[.slice A l.length c] w fun e w' => ∃ A2 c2, e = .returned (.slice A2 (Gr.nodes l).length c2) ∧ (Gr.nodes l).length ≤ c2 ∧ Kd.C k36 w' A2 ((Gr.nodes l).map ofNd).length ((Gr.nodes l).map ofNd) ∧ Below w.heap.size w w' := by
  obtain ⟨k, hk⟩ := (nodes_f l hl).rounds
  have := quoinref08_Nodes.calls k (fun k_ => k_ < w.heap.size) A c (l.map ofNd) _ w (Kd.V_mk (by rw [List.length_map]; exact hc) (Kd.C_F k36_heap hC)) hk
  rw [List.length_map] at this
  refine this.mono fun e w' h => ?_
  obtain ⟨v, h1, h2, h3⟩ := h
  obtain ⟨A2, c2, h4⟩ := Kd.V_slice (Kd.N_V (base' := 0) h2)
  subst h4
  have h5 := Kd.V_reads' (Kd.N_V (base' := 0) h2)
  rw [List.length_map] at h1 h5
  exact ⟨A2, c2, h1, h5.2.1, by rw [List.length_map]; exact h5.2.2, h3⟩
variable (hok : ∀ d ∈ l, NdOk d)
include hok
theorem rimports_any (n : Str) : Calls Try.prog 33 #[.slice A l.length c, .string (ba n)] w (RowR w (Gr.canon (Gr.impRow l n l))) := by
  obtain ⟨k, hk⟩ := (imports_f l n hl (fun d hd => (hok d hd).2.1)).rounds
  have := quoinref08_imports.calls k A c (l.map ofNd) (ba n) _ w hC (by rw [List.length_map]; exact hc) hk
  rw [List.length_map] at this
  exact this.mono fun e w' h => by obtain ⟨v, h1, h2, h3⟩ := h; exact ⟨v, h1, own_of h2, h3⟩
theorem rusers_any (n : Str) : Calls Try.prog 20 #[.slice A l.length c, .string (ba n)] w (RowR w (Gr.usersP (Gr.nodes l) n)) := by
  obtain ⟨k, hk⟩ := (users_f l n hl (fun d hd => (hok d hd).2.1)).rounds
  have := quoinref08_Users.calls k A c (l.map ofNd) (ba n) _ w hC (by rw [List.length_map]; exact hc) hk
  rw [List.length_map] at this
  exact this.mono fun e w' h => by obtain ⟨v, h1, h2, h3⟩ := h; exact ⟨v, h1, own_of h2, h3⟩
theorem rready_any (D : List Str) (A2 : Option Addr) (c2 : Nat) (hD : Kd.string.C w A2 (D.map ba).length (D.map ba)) (hc2 : D.length ≤ c2) (hDl : D.length ≤ big) :
    Calls Try.prog 18 #[.slice A l.length c, .slice A2 D.length c2] w (RowR w (Gr.readyL (Gr.nodes l) D)) := by
  obtain ⟨k, hk⟩ := (ready_f l D hl (fun d hd => (hok d hd).2.1) hDl).rounds
  have := quoinref08_Ready.calls k A c (l.map ofNd) A2 c2 (D.map ba) _ w hC (by rw [List.length_map]; exact hc) hD (by rw [List.length_map]; exact hc2) hk
  rw [List.length_map, List.length_map] at this
  exact this.mono fun e w' h => by obtain ⟨v, h1, h2, h3⟩ := h; exact ⟨v, h1, own_of h2, h3⟩
theorem rorder_any : Calls Try.prog 13 #[.slice A l.length c] w fun e w' => ∃ v1 v2, e = .returned (.tuple #[v1, v2]) ∧ w'.ownsRow w.heap.size 9 1 v1 (Gr.orderP (Gr.nodes l)).length ((Gr.orderP (Gr.nodes l)).map encStr) ∧
      w'.ownsRow w.heap.size 9 1 v2 (Gr.stuckP (Gr.nodes l)).length ((Gr.stuckP (Gr.nodes l)).map encStr) ∧ Below w.heap.size w w' := by
  obtain ⟨k, hk⟩ := (order_f l hl (fun d hd => (hok d hd).2.1)).rounds
  have := quoinref08_Order.calls k A c (l.map ofNd) _ _ w hC (by rw [List.length_map]; exact hc) hk
  rw [List.length_map] at this
  exact this.mono fun e w' h => by obtain ⟨v1, v2, h1, h2, h3, h4⟩ := h; exact ⟨v1, v2, h1, own_of h2, own_of h3, h4⟩
end

/-! ### A queue of names; the document's Reached -/
theorem append_nothing {W : World} {ty : TypeId} {i0 : TypeInfo} (hi : Try.prog.info? 9 = some i0) (ad : Addr) (vx : Value) (hs : Src Try.prog i0.size 25 vx 0 [] W) :
    (Builtin.append_ #[25, 25] ty #[.slice (some ad) 0 0, vx]).run Try.prog W = .ok (.slice (some ad) 0 0) W := by
  have h25 := Try.underlying25
  rcases hs.kind with ⟨e', hk⟩ | hk
  · simp [Builtin.append_, run_underlying h25, sizeOf, typeInfo, hi, hs.len, hs.cells]
    rfl
  · rw [h25] at hk; cases hk
/-- append(more, l...) on a queue. -/
theorem append_queue {ops : Array Oper} {rest : List Oper} {o : Oper} {a : Act} {Q : Exit → Act → World → Prop} {W : World} (hgd : o.guard = none) (s x : Operand)
    (ho : o.op = .call { callee := .builtin .append, args := #[s, x], argTypes := #[25, 25] }) (base b2 n cap : Nat) (ad : Addr) (vx : Value) (xs ys : List Str) (hs : a.eval s = .slice (some ad) n cap) (hx : a.eval x = vx) (hn : n = xs.length)
    (hrow : QRow W base 9 1 (.slice (some ad) n cap) n (xs.map encStr)) (hsrc : W.ownsRow b2 9 1 vx ys.length (ys.map encStr)) (hb : (xs.length + ys.length) * 16 ≤ 140737488355328) (hbase : base ≤ W.heap.size)
    (h : ∀ v' W', QRow W' base 9 1 v' (xs ++ ys).length ((xs ++ ys).map encStr) → W.grownBy W' (some ad.block) → (v'.ownBlock = some ad.block ∨ ∃ b, v'.ownBlock = some b ∧ W.heap.size ≤ b) → wpList Try.prog ops Q rest (a.put o.dst v') W') :
    wpList Try.prog ops Q (o :: rest) a W := by
  subst hn
  obtain ⟨i0, hi, hz0, hz1, hz2⟩ := info_parts info9
  by_cases h0 : ys.length = 0
  · obtain rfl : ys = [] := List.length_eq_zero_iff.1 h0
    refine wpList_plain hgd fun K hK => ?_
    have hsx : Src Try.prog i0.size 25 vx 0 [] W := by
      rcases hsrc.2 with ⟨hv, _⟩ | ⟨g2, cap2, cur2, hv, _⟩
      · rw [hv]; exact Src.ofNil W Try.underlying25 0
      · rw [hv]; exact Src.ofSlice W Try.underlying25 _ 0 cap2 [] (by simp) (by simp) (by simp)
    have hr : (Builtin.append_ #[25, 25] o.type #[.slice (some ad) xs.length cap, vx]).run Try.prog W = .ok (.slice (some ad) xs.length cap) W := by
      rcases hrow.2 with ⟨hn, A', he, hA'⟩ | ⟨g, off, cap', cur, he, _, _, hcc, _⟩
      · injection he with h1 h2 h3
        rw [h2, h3]
        exact append_nothing hi ad vx hsx
      · injection he with h1 h2 h3
        cases h1
        subst h3
        exact run_append_room_src (P := Try.prog) W 25 25 o.type 9 i0 Try.underlying25 hi g (off * 1) xs.length cap vx 0 [] hsx (by omega) (by simp) (by simp)
    unfold Oper.wp
    simp [execOp, ho, resolve, invoke, builtin, hs, hx, hr, Result.andThen]
    refine hK _ _ ?_
    exact h (.slice (some ad) xs.length cap) W (by rw [List.append_nil]; exact hrow) ⟨rfl, rfl, rfl, Nat.le_refl _, fun _ _ _ => rfl⟩ (.inl rfl)
  · rcases hsrc.2 with ⟨_, hz⟩ | ⟨g2, cap2, cur2, hv, _⟩
    · exact absurd hz h0
    subst hv
    obtain ⟨v', w', hr, h1, h2, h3⟩ := q_append (P := Try.prog) W base 25 o.type 9 i0 (.string ⟨#[]⟩) 1 16 Try.underlying25 hi hz0 hz1 hz2 rfl (by decide) _ xs.length _ hrow ⟨g2, 0, none⟩ ys.length cap2 (ys.map encStr) (by simp) (fun j u hj => hsrc.cells (g := g2) rfl j u hj) (fun u hu => by obtain ⟨y, _, rfl⟩ := List.mem_map.1 hu; rfl) (by omega) (by unfold maxLen; omega) hb hbase
    refine wpList_plain hgd fun K hK => ?_
    rw [← List.map_append, ← List.length_append] at h1
    unfold Oper.wp
    simp [execOp, ho, resolve, invoke, builtin, hs, hx, hr, Result.andThen]
    exact hK _ _ (h v' w' h1 h2 h3)
end Go.Proofs.Ytpdilplgdbcjpaa
