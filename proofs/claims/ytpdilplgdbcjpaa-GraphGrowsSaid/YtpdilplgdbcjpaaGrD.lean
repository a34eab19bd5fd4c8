/- Plain laws of graphs of names: rows that rise, who is ready, orders, who is reached. Plain laws of graphs, as the statements ask them: places of names. Plain laws of graphs: the document's functions, loop by loop. A set's names in order: what the library's sort hands back is the rising row. -/

namespace Go.Proofs.Ytpdilplgdbcjpaa.Gr
abbrev Str := List UInt8
structure Nd where
  name : Str
  imps : List Str

/-! ### Rows that rise -/
def Up : List Str → Prop
  | [] => True
  | [_] => True
  | a :: b :: r => a < b ∧ Up (b :: r)
theorem lt_tr {a b c : Str} (h : a < b) (h' : b < c) : a < c := List.lt_trans h h'
theorem lt_ne {a b : Str} (h : a < b) : a ≠ b := fun e => by subst e; exact List.lt_irrefl a h
theorem lt_tri (a b : Str) : a < b ∨ a = b ∨ b < a := by
  by_cases h1 : a < b
  · exact .inl h1
  · by_cases h2 : b < a
    · exact .inr (.inr h2)
    · exact .inr (.inl (List.le_antisymm (List.not_lt.1 h2) (List.not_lt.1 h1)))
theorem Up.tail {a : Str} {r : List Str} (h : Up (a :: r)) : Up r := by
  cases r with
  | nil => trivial
  | cons b r => exact h.2
theorem Up.all {a : Str} {r : List Str} (h : Up (a :: r)) : ∀ x ∈ r, a < x := by
  induction r generalizing a with
  | nil => simp
  | cons b r ih =>
    intro x hx
    rcases List.mem_cons.1 hx with rfl | hx
    · exact h.1
    · exact lt_tr h.1 (ih h.2 x hx)
theorem Up.cons {a : Str} {r : List Str} (h : Up r) (ha : ∀ x ∈ r, a < x) : Up (a :: r) := by
  cases r with
  | nil => trivial
  | cons b r => exact ⟨ha b List.mem_cons_self, h⟩
theorem Up.ext : ∀ {l m : List Str}, Up l → Up m → (∀ x, x ∈ l ↔ x ∈ m) → l = m
  | [], [], _, _, _ => rfl
  | [], b :: m, _, _, h => by have := (h b).2 List.mem_cons_self; simp at this
  | a :: l, [], _, _, h => by have := (h a).1 List.mem_cons_self; simp at this
  | a :: l, b :: m, hl, hm, h => by
    have hab : a = b := by
      rcases List.mem_cons.1 ((h a).1 List.mem_cons_self) with e | h1
      · exact e
      · rcases List.mem_cons.1 ((h b).2 List.mem_cons_self) with e | h2
        · exact e.symm
        · exact absurd (lt_tr (hm.all a h1) (hl.all b h2)) (List.lt_irrefl b)
    subst hab
    have hs : ∀ x, x ∈ l ↔ x ∈ m := by
      intro x
      constructor
      · intro hx
        rcases List.mem_cons.1 ((h x).1 (List.mem_cons_of_mem _ hx)) with e | h1
        · exact absurd e.symm (lt_ne (hl.all x hx))
        · exact h1
      · intro hx
        rcases List.mem_cons.1 ((h x).2 (List.mem_cons_of_mem _ hx)) with e | h1
        · exact absurd e.symm (lt_ne (hm.all x hx))
        · exact h1
    rw [Up.ext hl.tail hm.tail hs]
theorem Up.nodup {l : List Str} (h : Up l) : l.Nodup := by
  induction l with
  | nil => exact List.nodup_nil
  | cons a r ih => exact List.nodup_cons.2 ⟨fun hm => List.lt_irrefl a (h.all a hm), ih h.tail⟩

/-! ### One more, once -/
def insS (s : Str) : List Str → List Str
  | [] => [s]
  | x :: r => if s < x then s :: x :: r else x :: insS s r
def withS (l : List Str) (s : Str) : List Str := if s ∈ l then l else insS s l
theorem mem_insS (s x : Str) : ∀ l : List Str, x ∈ insS s l ↔ x = s ∨ x ∈ l
  | [] => by simp [insS]
  | a :: r => by
    rw [insS]
    split
    · simp
    · rw [List.mem_cons, mem_insS s x r, List.mem_cons]
      constructor
      · rintro (h | h | h)
        · exact .inr (.inl h)
        · exact .inl h
        · exact .inr (.inr h)
      · rintro (h | h | h)
        · exact .inr (.inl h)
        · exact .inl h
        · exact .inr (.inr h)
theorem len_insS (s : Str) : ∀ l : List Str, (insS s l).length = l.length + 1
  | [] => rfl
  | a :: r => by
    rw [insS]
    split
    · rfl
    · rw [List.length_cons, len_insS s r, List.length_cons]
theorem mem_withS (l : List Str) (s x : Str) : x ∈ withS l s ↔ x = s ∨ x ∈ l := by
  unfold withS
  split
  · rename_i h
    constructor
    · exact .inr
    · rintro (rfl | h') <;> assumption
  · exact mem_insS s x l
theorem insS_up (s : Str) : ∀ {l : List Str}, Up l → s ∉ l → Up (insS s l)
  | [], _, _ => trivial
  | a :: r, h, hs => by
    rw [insS]
    split
    · rename_i hlt
      exact ⟨hlt, h⟩
    · rename_i hlt
      have has : a < s := by
        rcases lt_tri s a with h1 | h1 | h1
        · exact absurd h1 hlt
        · exact absurd (by rw [h1]; exact List.mem_cons_self) hs
        · exact h1
      refine Up.cons (insS_up s h.tail (fun hm => hs (List.mem_cons_of_mem _ hm))) ?_
      intro x hx
      rcases (mem_insS s x r).1 hx with rfl | hx
      · exact has
      · exact h.all x hx
theorem withS_up {l : List Str} (h : Up l) (s : Str) : Up (withS l s) := by
  unfold withS
  split
  · exact h
  · exact insS_up s h (by assumption)
theorem len_withS (l : List Str) (s : Str) : (withS l s).length ≤ l.length + 1 := by
  unfold withS
  split
  · omega
  · rw [len_insS]; omega
/-- A row of names as it rises, each once. -/
def canon (l : List Str) : List Str := l.foldl withS []
theorem canon_snoc (l : List Str) (s : Str) : canon (l ++ [s]) = withS (canon l) s := by simp [canon]
theorem foldl_withS : ∀ (l acc : List Str), Up acc → Up (l.foldl withS acc) ∧ ∀ x, x ∈ l.foldl withS acc ↔ x ∈ acc ∨ x ∈ l
  | [], acc, h => ⟨h, by simp⟩
  | a :: r, acc, h => by
    have := foldl_withS r (withS acc a) (withS_up h a)
    refine ⟨this.1, fun x => ?_⟩
    rw [List.foldl_cons, this.2 x, mem_withS, List.mem_cons]
    constructor
    · rintro ((h | h) | h)
      · exact .inr (.inl h)
      · exact .inl h
      · exact .inr (.inr h)
    · rintro (h | h | h)
      · exact .inl (.inr h)
      · exact .inl (.inl h)
      · exact .inr h
theorem canon_up (l : List Str) : Up (canon l) := (foldl_withS l [] trivial).1
theorem mem_canon (l : List Str) (x : Str) : x ∈ canon l ↔ x ∈ l := by rw [canon, (foldl_withS l [] trivial).2 x]; simp
theorem canon_eq {l m : List Str} (h : ∀ x, x ∈ l ↔ x ∈ m) : canon l = canon m := (canon_up l).ext (canon_up m) (fun x => by rw [mem_canon, mem_canon, h])
theorem canon_of_up {l m : List Str} (hm : Up m) (h : ∀ x, x ∈ l ↔ x ∈ m) : canon l = m := (canon_up l).ext hm (fun x => by rw [mem_canon, h])
theorem canon_nil {l : List Str} : canon l = [] ↔ l = [] := by
  constructor
  · intro h
    cases l with
    | nil => rfl
    | cons a r => have := (mem_canon (a :: r) a).2 List.mem_cons_self; rw [h] at this; simp at this
  · rintro rfl; rfl
theorem len_canon : ∀ (l : List Str), (canon l).length ≤ l.length := by
  have h : ∀ (l acc : List Str), (l.foldl withS acc).length ≤ acc.length + l.length := by
    intro l
    induction l with
    | nil => simp
    | cons a r ih =>
      intro acc
      have h1 := ih (withS acc a)
      have h2 := len_withS acc a
      rw [List.foldl_cons, List.length_cons]
      omega
  intro l
  have := h l []
  simp at this
  exact this

/-! ### Nodes that count -/
def nodesF (acc : List Nd) : List Nd → List Nd
  | [] => acc
  | n :: r => nodesF (if n.name ∈ acc.map (·.name) then acc else acc ++ [n]) r
def nodes (l : List Nd) : List Nd := nodesF [] l
def names (l : List Nd) : List Str := l.map (·.name)
theorem nodesF_snoc (acc l : List Nd) (n : Nd) : nodesF acc (l ++ [n]) = if n.name ∈ names (nodesF acc l) then nodesF acc l else nodesF acc l ++ [n] := by
  induction l generalizing acc with
  | nil => rfl
  | cons a r ih => exact ih _
theorem nodes_snoc (l : List Nd) (n : Nd) : nodes (l ++ [n]) = if n.name ∈ names (nodes l) then nodes l else nodes l ++ [n] := nodesF_snoc [] l n
theorem nodesF_names (l : List Nd) : ∀ acc, ∀ x, x ∈ names (nodesF acc l) ↔ x ∈ names acc ∨ x ∈ names l := by
  induction l with
  | nil => intro acc x; simp [nodesF, names]
  | cons n r ih =>
    intro acc x
    rw [nodesF, ih]
    by_cases h : n.name ∈ acc.map (·.name)
    · rw [if_pos h]
      simp only [names, List.map_cons, List.mem_cons]
      constructor
      · rintro (h1 | h1)
        · exact .inl h1
        · exact .inr (.inr h1)
      · rintro (h1 | rfl | h1)
        · exact .inl h1
        · exact .inl h
        · exact .inr h1
    · rw [if_neg h]
      simp [names]
      constructor
      · rintro ((h1 | h1) | h1)
        · exact .inl h1
        · exact .inr (.inl h1)
        · exact .inr (.inr h1)
      · rintro (h1 | h1 | h1)
        · exact .inl (.inl h1)
        · exact .inl (.inr h1)
        · exact .inr h1
theorem mem_names_nodes (l : List Nd) (x : Str) : x ∈ names (nodes l) ↔ x ∈ names l := by rw [nodes, nodesF_names]; simp [names]
theorem nodesF_nodup (l : List Nd) : ∀ acc, (names acc).Nodup → (names (nodesF acc l)).Nodup := by
  induction l with
  | nil => intro acc h; exact h
  | cons n r ih =>
    intro acc h
    rw [nodesF]
    refine ih _ ?_
    split
    · exact h
    · rename_i hn
      unfold names
      rw [List.map_append, List.nodup_append]
      refine ⟨h, by simp, ?_⟩
      intro a ha b hb e
      simp at hb
      subst hb e
      exact hn ha
theorem nodes_nodup (l : List Nd) : (names (nodes l)).Nodup := nodesF_nodup l [] List.nodup_nil
theorem nodesF_keep (l : List Nd) : ∀ acc, (names (acc ++ l)).Nodup → nodesF acc l = acc ++ l := by
  induction l with
  | nil => intro acc _; simp [nodesF]
  | cons n r ih =>
    intro acc h
    have hn : n.name ∉ acc.map (·.name) := by
      unfold names at h
      rw [List.map_append, List.nodup_append] at h
      intro hm
      exact h.2.2 _ hm _ (by simp) rfl
    rw [nodesF, if_neg hn, ih _ (by simpa using h)]
    simp
theorem nodes_of_nodup {l : List Nd} (h : (names l).Nodup) : nodes l = l := by
  have := nodesF_keep l [] (by simpa using h)
  simpa [nodes] using this
theorem nodes_twice (l : List Nd) : nodes (nodes l) = nodes l := nodes_of_nodup (nodes_nodup l)
theorem nodesF_mem (l : List Nd) : ∀ acc, ∀ n, n ∈ nodesF acc l → n ∈ acc ∨ n ∈ l := by
  induction l with
  | nil => intro acc n h; exact .inl h
  | cons a r ih =>
    intro acc n h
    rw [nodesF] at h
    rcases ih _ n h with h1 | h1
    · split at h1
      · exact .inl h1
      · rcases List.mem_append.1 h1 with h2 | h2
        · exact .inl h2
        · exact .inr (by simp at h2; subst h2; exact List.mem_cons_self)
    · exact .inr (List.mem_cons_of_mem _ h1)
theorem nodes_mem {l : List Nd} {n : Nd} (h : n ∈ nodes l) : n ∈ l := by
  rcases nodesF_mem l [] n h with h | h
  · simp at h
  · exact h

/-! ### Who is imported, who is ready -/
def impsOf (g : List Nd) (n : Str) : List Str := match g.find? (fun d => decide (d.name = n)) with
  | some d => d.imps.filter (fun i => decide (i ∈ names g))
  | none => []
def isReady (g : List Nd) (done : List Str) (n : Str) : Bool := decide (n ∉ done) && (impsOf g n).all (fun i => decide (i ∈ done))
def readyL (g : List Nd) (done : List Str) : List Str := canon ((names g).filter (isReady g done))
theorem mem_readyL {g : List Nd} {done : List Str} {n : Str} : n ∈ readyL g done ↔ n ∈ names g ∧ n ∉ done ∧ ∀ i ∈ impsOf g n, i ∈ done := by
  rw [readyL, mem_canon, List.mem_filter, isReady]
  simp [List.all_eq_true]
theorem find_node {d : Nd} : ∀ {g : List Nd}, (g.map (·.name)).Nodup → d ∈ g → g.find? (fun e => decide (e.name = d.name)) = some d
  | [], _, h => by simp at h
  | a :: r, hn, h => by
    rw [List.map_cons, List.nodup_cons] at hn
    rcases List.mem_cons.1 h with rfl | h
    · simp
    · have hne : ¬ a.name = d.name := fun e => hn.1 (by rw [e]; exact List.mem_map.2 ⟨d, h, rfl⟩)
      have hf : decide (a.name = d.name) = false := decide_eq_false hne
      rw [List.find?_cons, hf]
      exact find_node hn.2 h
theorem impsOf_node {g : List Nd} (hg : (names g).Nodup) {d : Nd} (hd : d ∈ g) : impsOf g d.name = d.imps.filter (fun i => decide (i ∈ names g)) := by
  unfold impsOf
  rw [find_node hg hd]
theorem impsOf_sub {g : List Nd} {n i : Str} (h : i ∈ impsOf g n) : i ∈ names g := by
  unfold impsOf at h
  split at h
  · have := (List.mem_filter.1 h).2
    simpa using this
  · simp at h
theorem sub_len : ∀ {o m : List Str}, o.Nodup → (∀ x ∈ o, x ∈ m) → o.length ≤ m.length
  | [], _, _, _ => Nat.zero_le _
  | a :: r, m, ho, hs => by
    have ha : a ∈ m := hs a List.mem_cons_self
    have h1 : r.length ≤ (m.erase a).length := sub_len (List.nodup_cons.1 ho).2 (fun x hx => (List.mem_erase_of_ne (by rintro rfl; exact (List.nodup_cons.1 ho).1 hx)).2 (hs x (List.mem_cons_of_mem _ hx)))
    rw [List.length_erase_of_mem ha] at h1
    have := List.length_pos_of_mem ha
    rw [List.length_cons]
    omega
theorem sub_all {o m : List Str} (ho : o.Nodup) (hs : ∀ x ∈ o, x ∈ m) (hl : m.length ≤ o.length) : ∀ x ∈ m, x ∈ o := by
  intro x hx
  apply Classical.byContradiction
  intro hn
  have := sub_len (List.nodup_cons.2 ⟨hn, ho⟩) (m := m) (by
    intro y hy
    rcases List.mem_cons.1 hy with rfl | hy
    · exact hx
    · exact hs y hy)
  rw [List.length_cons] at this
  omega

/-! ### The order -/
def orderF (g : List Nd) : Nat → List Str → List Str
  | 0, o => o
  | k + 1, o => match readyL g o with
    | [] => o
    | x :: _ => orderF g k (o ++ [x])
def orderP (g : List Nd) : List Str := orderF g g.length []
def stuckP (g : List Nd) : List Str := canon ((names g).filter (fun n => decide (n ∉ orderP g)))
structure Good (g : List Nd) (o : List Str) : Prop where
  nd : o.Nodup
  sub : ∀ x ∈ o, x ∈ names g
  behind : ∀ (i : Nat) x, o[i]? = some x → ∀ y ∈ impsOf g x, y ∈ o.take i
theorem Good.nil (g : List Nd) : Good g [] := ⟨List.nodup_nil, by simp, by simp⟩
theorem Good.snoc {g : List Nd} {o : List Str} (h : Good g o) {x : Str} (hx : x ∈ readyL g o) : Good g (o ++ [x]) := by
  obtain ⟨h1, h2, h3⟩ := mem_readyL.1 hx
  refine ⟨?_, ?_, ?_⟩
  · rw [List.nodup_append]
    refine ⟨h.nd, by simp, ?_⟩
    intro a ha b hb e
    simp at hb
    subst hb e
    exact h2 ha
  · intro y hy
    rcases List.mem_append.1 hy with hy | hy
    · exact h.sub y hy
    · simp at hy; subst hy; exact h1
  · intro i y hi z hz
    by_cases hlt : i < o.length
    · rw [List.getElem?_append_left hlt] at hi
      rw [List.take_append_of_le_length (by omega)]
      exact h.behind i y hi z hz
    · rw [List.getElem?_append_right (by omega)] at hi
      have h0 : i = o.length := by
        have := (List.getElem?_eq_some_iff.1 hi).1
        simp at this
        omega
      subst h0
      have hy : x = y := by simpa using hi
      subst hy
      rw [List.take_append_of_le_length (Nat.le_refl _), List.take_length]
      exact h3 z hz
theorem Good.len {g : List Nd} {o : List Str} (h : Good g o) : o.length ≤ g.length := by
  have := sub_len h.nd h.sub
  simpa [names] using this
theorem Good.full {g : List Nd} {o : List Str} (h : Good g o) (hl : g.length ≤ o.length) : readyL g o = [] := by
  cases hr : readyL g o with
  | nil => rfl
  | cons x r =>
    have hx := mem_readyL.1 (by rw [hr]; exact List.mem_cons_self : x ∈ readyL g o)
    exact absurd (sub_all h.nd h.sub (by simpa [names] using hl) x hx.1) hx.2.1
theorem orderF_done {g : List Nd} {o : List Str} (h : readyL g o = []) : ∀ k, orderF g k o = o
  | 0 => rfl
  | k + 1 => by rw [orderF, h]
theorem orderF_spec {g : List Nd} : ∀ (k : Nat) (o : List Str), Good g o → g.length ≤ o.length + k → Good g (orderF g k o) ∧ readyL g (orderF g k o) = [] ∧ o <+: orderF g k o ∧
    ∀ i x, o.length ≤ i → (orderF g k o)[i]? = some x → ∃ r, readyL g ((orderF g k o).take i) = x :: r
  | 0, o, h, hl => ⟨h, h.full (by omega), List.prefix_refl _, fun i x hi hx => by
      have := (List.getElem?_eq_some_iff.1 hx).1
      simp only [orderF] at this
      omega⟩
  | k + 1, o, h, hl => by
    cases hr : readyL g o with
    | nil =>
      rw [orderF_done hr]
      exact ⟨h, hr, List.prefix_refl _, fun i x hi hx => by have := (List.getElem?_eq_some_iff.1 hx).1; omega⟩
    | cons y r =>
      have hg := h.snoc (x := y) (by rw [hr]; exact List.mem_cons_self)
      have ih := orderF_spec k (o ++ [y]) hg (by rw [List.length_append, List.length_singleton]; omega)
      have he : orderF g (k + 1) o = orderF g k (o ++ [y]) := by rw [orderF, hr]
      rw [he]
      refine ⟨ih.1, ih.2.1, (List.prefix_append o [y]).trans ih.2.2.1, fun i x hi hx => ?_⟩
      by_cases hi2 : o.length + 1 ≤ i
      · exact ih.2.2.2 i x (by rw [List.length_append, List.length_singleton]; exact hi2) hx
      · have hio : i = o.length := by omega
        subst hio
        obtain ⟨t, ht⟩ := ih.2.2.1
        rw [← ht] at hx ⊢
        rw [List.append_assoc, List.getElem?_append_right (Nat.le_refl _), Nat.sub_self] at hx
        have hxy : y = x := by simpa using hx
        subst hxy
        rw [List.append_assoc, List.take_append_of_le_length (Nat.le_refl _), List.take_length]
        exact ⟨r, hr⟩
theorem order_good (g : List Nd) : Good g (orderP g) := (orderF_spec g.length [] (Good.nil g) (by simp)).1
theorem order_end (g : List Nd) : readyL g (orderP g) = [] := (orderF_spec g.length [] (Good.nil g) (by simp)).2.1
theorem order_step (g : List Nd) (i : Nat) (x : Str) (h : (orderP g)[i]? = some x) : ∃ r, readyL g ((orderP g).take i) = x :: r := (orderF_spec g.length [] (Good.nil g) (by simp)).2.2.2 i x (Nat.zero_le _) h
theorem mem_stuckP {g : List Nd} {x : Str} : x ∈ stuckP g ↔ x ∈ names g ∧ x ∉ orderP g := by
  rw [stuckP, mem_canon, List.mem_filter]; simp
/-- Who is not in order imports one that is not. -/
theorem stuck_imp {g : List Nd} {x : Str} (h : x ∈ stuckP g) : ∃ y ∈ impsOf g x, y ∈ stuckP g := by
  obtain ⟨h1, h2⟩ := mem_stuckP.1 h
  apply Classical.byContradiction
  intro hn
  have hr : x ∈ readyL g (orderP g) := mem_readyL.2 ⟨h1, h2, fun i hi => by
    apply Classical.byContradiction
    intro hni
    exact hn ⟨i, hi, mem_stuckP.2 ⟨impsOf_sub hi, hni⟩⟩⟩
  rw [order_end] at hr
  simp at hr
theorem order_imp {g : List Nd} {x y : Str} (h : x ∈ orderP g) (hy : y ∈ impsOf g x) : y ∈ orderP g := by
  obtain ⟨i, hi, e⟩ := List.mem_iff_getElem.1 h
  exact List.mem_of_mem_take ((order_good g).behind i x (by rw [← e]; exact List.getElem?_eq_getElem hi) y hy)

/-! ### Who is reached -/
inductive Reach (g : List Nd) (n : Str) : Str → Prop where
  | one {x : Str} (h : x ∈ impsOf g n) : Reach g n x
  | more {x y : Str} (h : Reach g n x) (hy : y ∈ impsOf g x) : Reach g n y
theorem Reach.names {g : List Nd} {n x : Str} (h : Reach g n x) : x ∈ names g := by
  cases h with
  | one h => exact impsOf_sub h
  | more _ h => exact impsOf_sub h
/-- What is reached of one that stands in order stands ahead of it. -/
theorem reach_ahead {g : List Nd} {n x : Str} (h : Reach g n x) : ∀ i, (orderP g)[i]? = some n → x ∈ (orderP g).take i := by
  induction h with
  | one h => intro i hi; exact (order_good g).behind i n hi _ h
  | more _ hy ih =>
    intro i hi
    obtain ⟨j, hj, e⟩ := List.mem_iff_getElem.1 (ih i hi)
    rw [List.length_take] at hj
    rw [List.getElem_take] at e
    have := (order_good g).behind j _ (by rw [← e]; exact List.getElem?_eq_getElem (by omega)) _ hy
    exact List.mem_of_mem_take (i := j) (by rw [List.take_take]; rw [Nat.min_eq_left (by omega)]; exact this)
theorem cyclic_stuck {g : List Nd} {n : Str} (hn : n ∈ names g) (h : Reach g n n) : n ∈ stuckP g := by
  refine mem_stuckP.2 ⟨hn, fun ho => ?_⟩
  obtain ⟨i, hi, e⟩ := List.mem_iff_getElem.1 ho
  have h1 := reach_ahead h i (by rw [← e]; exact List.getElem?_eq_getElem hi)
  obtain ⟨j, hj, ej⟩ := List.mem_iff_getElem.1 h1
  rw [List.length_take] at hj
  rw [List.getElem_take] at ej
  have := (List.getElem_inj (h₀ := by omega) (h₁ := hi) (order_good g).nd).1 (ej.trans e.symm)
  omega
noncomputable def cycP (g : List Nd) : List Str := open Classical in canon ((Gr.names g).filter (fun n => decide (Reach g n n)))
theorem mem_cycP {g : List Nd} {x : Str} : x ∈ cycP g ↔ x ∈ Gr.names g ∧ Reach g x x := by
  rw [cycP, mem_canon, List.mem_filter]; simp
/-- What the search keeps: seen, and still to see. -/
structure Seek (g : List Nd) (n : Str) (seen more : List Str) : Prop where
  ok : ∀ x, x ∈ seen ∨ x ∈ more → Reach g n x
  sub : ∀ s ∈ seen, ∀ y ∈ impsOf g s, y ∈ seen ∨ y ∈ more
  root : ∀ y ∈ impsOf g n, y ∈ seen ∨ y ∈ more
theorem Seek.end {g : List Nd} {n : Str} {seen : List Str} (h : Seek g n seen []) (x : Str) : x ∈ seen ↔ Reach g n x := by
  constructor
  · intro hx; exact h.ok x (.inl hx)
  · intro hx
    induction hx with
    | one hy => simpa using h.root _ hy
    | more _ hy ih => simpa using h.sub _ ih _ hy
theorem Seek.congr {g : List Nd} {n : Str} {seen more seen' more' : List Str} (h : Seek g n seen more) (h1 : ∀ x, x ∈ seen' ↔ x ∈ seen) (h2 : ∀ x, x ∈ more' ↔ x ∈ more) : Seek g n seen' more' :=
  ⟨fun x hx => h.ok x (by rw [← h1, ← h2]; exact hx), fun s hs y hy => by rw [h1, h2]; exact h.sub s ((h1 s).1 hs) y hy, fun y hy => by rw [h1, h2]; exact h.root y hy⟩
theorem Seek.start (g : List Nd) (n : Str) (more : List Str) (hm : ∀ x, x ∈ more ↔ x ∈ impsOf g n) : Seek g n [] more :=
  ⟨fun x hx => by rcases hx with hx | hx; simp at hx; exact .one ((hm x).1 hx), by simp, fun y hy => .inr ((hm y).2 hy)⟩
theorem Seek.skip {g : List Nd} {n a : Str} {seen more : List Str} (h : Seek g n seen (a :: more)) (ha : a ∈ seen) : Seek g n seen more := by
  have e : ∀ x, x ∈ a :: more → x ∈ seen ∨ x ∈ more := fun x hx => by
    rcases List.mem_cons.1 hx with rfl | hx
    · exact .inl ha
    · exact .inr hx
  refine ⟨fun x hx => h.ok x (hx.imp id (List.mem_cons_of_mem _)), fun s hs y hy => ?_, fun y hy => ?_⟩
  · rcases h.sub s hs y hy with h1 | h1
    · exact .inl h1
    · exact e y h1
  · rcases h.root y hy with h1 | h1
    · exact .inl h1
    · exact e y h1
theorem Seek.see {g : List Nd} {n a : Str} {seen more more' : List Str} (h : Seek g n seen (a :: more)) (hm : ∀ x, x ∈ more' ↔ x ∈ more ∨ x ∈ impsOf g a) : Seek g n (a :: seen) more' := by
  have hra : Reach g n a := h.ok a (.inr List.mem_cons_self)
  have e : ∀ x, x ∈ seen ∨ x ∈ a :: more → x ∈ a :: seen ∨ x ∈ more' := fun x hx => by
    rcases hx with hx | hx
    · exact .inl (List.mem_cons_of_mem _ hx)
    · rcases List.mem_cons.1 hx with rfl | hx
      · exact .inl List.mem_cons_self
      · exact .inr ((hm x).2 (.inl hx))
  refine ⟨fun x hx => ?_, fun s hs y hy => ?_, fun y hy => e y (h.root y hy)⟩
  · rcases hx with hx | hx
    · rcases List.mem_cons.1 hx with rfl | hx
      · exact hra
      · exact h.ok x (.inl hx)
    · rcases (hm x).1 hx with hx | hx
      · exact h.ok x (.inr (List.mem_cons_of_mem _ hx))
      · exact .more hra hx
  · rcases List.mem_cons.1 hs with rfl | hs
    · exact .inr ((hm y).2 (.inr hy))
    · exact e y (h.sub s hs y hy)

/-! ### In whatever order nodes are given -/
theorem impsOf_perm {g g' : List Nd} (hg : (names g).Nodup) (hg' : (names g').Nodup) (hm : ∀ d, d ∈ g' ↔ d ∈ g) : impsOf g' = impsOf g := by
  have hn : ∀ x, x ∈ names g' ↔ x ∈ names g := fun x => by simp only [names, List.mem_map, hm]
  have hN : (fun i => decide (i ∈ names g')) = (fun i => decide (i ∈ names g)) := by funext i; simp only [hn]
  funext n
  by_cases h : n ∈ names g
  · obtain ⟨d, hd, rfl⟩ := List.mem_map.1 h
    rw [impsOf_node hg hd, impsOf_node hg' ((hm d).2 hd), hN]
  · have h1 : g.find? (fun d => decide (d.name = n)) = none := List.find?_eq_none.2 (fun d hd => by simp; exact fun e => h (List.mem_map.2 ⟨d, hd, e⟩))
    have h2 : g'.find? (fun d => decide (d.name = n)) = none := List.find?_eq_none.2 (fun d hd => by simp; exact fun e => h (List.mem_map.2 ⟨d, (hm d).1 hd, e⟩))
    simp only [impsOf, h1, h2]
theorem readyL_congr {g g' : List Nd} (hi : impsOf g' = impsOf g) (hn : ∀ x, x ∈ names g' ↔ x ∈ names g) (o : List Str) : readyL g' o = readyL g o := by
  refine canon_eq fun x => ?_
  rw [List.mem_filter, List.mem_filter, hn]
  simp only [isReady, hi]
theorem orderF_congr {g g' : List Nd} (h : ∀ o, readyL g' o = readyL g o) : ∀ (k : Nat) (o : List Str), orderF g' k o = orderF g k o
  | 0, _ => rfl
  | k + 1, o => by
    rw [orderF, orderF, h]
    cases readyL g o with
    | nil => rfl
    | cons x r => exact orderF_congr h k _
theorem turned {g g' : List Nd} (hg : (names g).Nodup) (hg' : (names g').Nodup) (hm : ∀ d, d ∈ g' ↔ d ∈ g) (hl : g'.length = g.length) : orderP g' = orderP g ∧ stuckP g' = stuckP g ∧ cycP g' = cycP g := by
  have hn : ∀ x, x ∈ names g' ↔ x ∈ names g := fun x => by simp only [names, List.mem_map, hm]
  have hi := impsOf_perm hg hg' hm
  have ho : orderP g' = orderP g := by
    unfold orderP
    rw [hl]
    exact orderF_congr (readyL_congr hi hn) _ _
  have hR : ∀ a b, Reach g' a b ↔ Reach g a b := by
    intro a b
    constructor
    · intro h
      induction h with
      | one h => exact .one (by rw [← hi]; exact h)
      | more _ hy ih => exact .more ih (by rw [← hi]; exact hy)
    · intro h
      induction h with
      | one h => exact .one (by rw [hi]; exact h)
      | more _ hy ih => exact .more ih (by rw [hi]; exact hy)
  refine ⟨ho, ?_, ?_⟩
  · refine canon_eq fun x => ?_
    rw [List.mem_filter, List.mem_filter, hn, ho]
  · refine (canon_up _).ext (canon_up _) fun x => ?_
    show x ∈ cycP g' ↔ x ∈ cycP g
    rw [mem_cycP, mem_cycP, hn, hR]

/-! ### One node more -/
structure Grown (g g' : List Nd) (n : Str) : Prop where
  nm : ∀ x, x ∈ names g' ↔ x ∈ names g ∨ x = n
  new : n ∉ names g
  old : ∀ x ∈ names g, ∀ i, i ∈ impsOf g' x ↔ i ∈ impsOf g x
  len : g'.length = g.length + 1
theorem Grown.of {g : List Nd} {d : Nd} (hg : (names g).Nodup) (hd : d.name ∉ names g) (hu : ∀ e ∈ g, d.name ∉ e.imps) : Grown g (g ++ [d]) d.name := by
  have hn : ∀ x, x ∈ names (g ++ [d]) ↔ x ∈ names g ∨ x = d.name := fun x => by simp [names]
  have hg' : (names (g ++ [d])).Nodup := by
    unfold names
    rw [List.map_append, List.nodup_append]
    refine ⟨hg, by simp, ?_⟩
    intro a ha b hb e
    simp at hb
    subst hb e
    exact hd ha
  refine ⟨hn, hd, ?_, by simp⟩
  intro x hx i
  obtain ⟨e, he, rfl⟩ := List.mem_map.1 hx
  rw [impsOf_node hg he, impsOf_node hg' (List.mem_append_left _ he), List.mem_filter, List.mem_filter, decide_eq_true_iff, decide_eq_true_iff, hn]
  constructor
  · rintro ⟨h1, h2 | h2⟩
    · exact ⟨h1, h2⟩
    · exact absurd (h2 ▸ h1) (hu e he)
  · rintro ⟨h1, h2⟩
    exact ⟨h1, .inl h2⟩
theorem Grown.ready {g g' : List Nd} {n : Str} (h : Grown g g' n) {o o' : List Str} (ho : ∀ x, x ∈ o ↔ x ∈ o' ∧ x ≠ n) (x : Str) (hx : x ≠ n) : x ∈ readyL g' o' ↔ x ∈ readyL g o := by
  rw [mem_readyL, mem_readyL, h.nm]
  constructor
  · rintro ⟨h1 | h1, h2, h3⟩
    · exact ⟨h1, fun hm => h2 ((ho x).1 hm).1, fun i hi => (ho i).2 ⟨h3 i ((h.old x h1 i).2 hi), fun e => h.new (e ▸ impsOf_sub hi)⟩⟩
    · exact absurd h1 hx
  · rintro ⟨h1, h2, h3⟩
    exact ⟨.inl h1, fun hm => h2 ((ho x).2 ⟨hm, hx⟩), fun i hi => ((ho i).1 (h3 i ((h.old x h1 i).1 hi))).1⟩
theorem up_head {a b : Str} {r s : List Str} (h1 : Up (a :: r)) (h2 : Up (b :: s)) (ha : a ∈ b :: s) (hb : b ∈ a :: r) : a = b := by
  rcases List.mem_cons.1 ha with e | h
  · exact e
  · rcases List.mem_cons.1 hb with e | h'
    · exact e.symm
    · exact absurd (lt_tr (h1.all b h') (h2.all a h)) (List.lt_irrefl a)
theorem Grown.order {g g' : List Nd} {n : Str} (h : Grown g g' n) : ∀ (k' k : Nat) (o' o : List Str), Good g' o' → Good g o → o'.filter (fun x => decide (x ≠ n)) = o → g'.length ≤ o'.length + k' → g.length ≤ o.length + k → (orderF g' k' o').filter (fun x => decide (x ≠ n)) = orderF g k o := by
  intro k'
  induction k' with
  | zero =>
    intro k o' o hg' hg hf hl' hl
    have hr' := hg'.full (by omega)
    have ho : ∀ x, x ∈ o ↔ x ∈ o' ∧ x ≠ n := fun x => by rw [← hf, List.mem_filter]; simp
    have hr : readyL g o = [] := by
      cases hq : readyL g o with
      | nil => rfl
      | cons x r =>
        have hx : x ∈ readyL g o := by rw [hq]; exact List.mem_cons_self
        have := (h.ready ho x (fun e => h.new (e ▸ (mem_readyL.1 hx).1))).2 hx
        rw [hr'] at this
        simp at this
    rw [orderF_done hr]
    exact hf
  | succ k' ih =>
    intro k o' o hg' hg hf hl' hl
    have ho : ∀ x, x ∈ o ↔ x ∈ o' ∧ x ≠ n := fun x => by rw [← hf, List.mem_filter]; simp
    cases hq' : readyL g' o' with
    | nil =>
      have hr : readyL g o = [] := by
        cases hq : readyL g o with
        | nil => rfl
        | cons x r =>
          have hx : x ∈ readyL g o := by rw [hq]; exact List.mem_cons_self
          have := (h.ready ho x (fun e => h.new (e ▸ (mem_readyL.1 hx).1))).2 hx
          rw [hq'] at this
          simp at this
      rw [orderF_done hr, orderF_done hq']
      exact hf
    | cons x r' =>
      have hx' : x ∈ readyL g' o' := by rw [hq']; exact List.mem_cons_self
      have he : orderF g' (k' + 1) o' = orderF g' k' (o' ++ [x]) := by rw [orderF, hq']
      rw [he]
      by_cases hxn : x = n
      · refine ih k (o' ++ [x]) o (hg'.snoc hx') hg ?_ (by rw [List.length_append, List.length_singleton]; omega) hl
        rw [List.filter_append, hf]
        simp [hxn]
      · have hx := (h.ready ho x hxn).1 hx'
        cases hq : readyL g o with
        | nil => rw [hq] at hx; simp at hx
        | cons y r =>
          have hy : y ∈ readyL g o := by rw [hq]; exact List.mem_cons_self
          have hy' := (h.ready ho y (fun e => h.new (e ▸ (mem_readyL.1 hy).1))).2 hy
          have u1 : Up (x :: r') := by rw [← hq']; exact canon_up _
          have u2 : Up (y :: r) := by rw [← hq]; exact canon_up _
          have hxy : x = y := up_head u1 u2 (by rw [← hq]; exact hx) (by rw [← hq']; exact hy')
          subst hxy
          have hlen := (hg.snoc hx).len
          rw [List.length_append, List.length_singleton] at hlen
          obtain ⟨k2, rfl⟩ : ∃ k2, k = k2 + 1 := ⟨k - 1, by omega⟩
          have he2 : orderF g (k2 + 1) o = orderF g k2 (o ++ [x]) := by rw [orderF, hq]
          rw [he2]
          refine ih k2 (o' ++ [x]) (o ++ [x]) (hg'.snoc hx') (hg.snoc hx) ?_ (by rw [List.length_append, List.length_singleton]; omega) (by rw [List.length_append, List.length_singleton]; omega)
          rw [List.filter_append, hf]
          simp [hxn]
theorem Grown.both {g g' : List Nd} {n : Str} (h : Grown g g' n) : (orderP g').filter (fun x => decide (x ≠ n)) = orderP g ∧ (stuckP g').filter (fun x => decide (x ≠ n)) = stuckP g := by
  have ho : (orderP g').filter (fun x => decide (x ≠ n)) = orderP g := h.order g'.length g.length [] [] (Good.nil _) (Good.nil _) rfl (by simp) (by simp)
  refine ⟨ho, ?_⟩
  have hu : ∀ {l : List Str} (p : Str → Bool), Up l → Up (l.filter p) := by
    intro l p
    induction l with
    | nil => intro _; trivial
    | cons a r ih =>
      intro hl
      rw [List.filter_cons]
      split
      · exact Up.cons (ih hl.tail) (fun x hx => hl.all x (List.mem_filter.1 hx).1)
      · exact ih hl.tail
  refine (hu _ (canon_up _)).ext (canon_up _) fun x => ?_
  show x ∈ (stuckP g').filter _ ↔ x ∈ stuckP g
  rw [List.mem_filter, mem_stuckP, mem_stuckP, decide_eq_true_iff, h.nm, ← ho, List.mem_filter, decide_eq_true_iff]
  constructor
  · rintro ⟨⟨h1 | h1, h2⟩, h3⟩
    · exact ⟨h1, fun hm => h2 hm.1⟩
    · exact absurd h1 h3
  · rintro ⟨h1, h2⟩
    have hne : x ≠ n := fun e => h.new (e ▸ h1)
    exact ⟨⟨.inl h1, fun hm => h2 ⟨hm, hne⟩⟩, hne⟩
theorem counts {g : List Nd} (hg : (names g).Nodup) : (orderP g).length + (stuckP g).length = g.length := by
  have h1 : (orderP g ++ stuckP g).Nodup := List.nodup_append.2 ⟨(order_good g).nd, (canon_up _).nodup, fun a ha b hb e => by subst e; exact (mem_stuckP.1 hb).2 ha⟩
  have h2 : ∀ x ∈ orderP g ++ stuckP g, x ∈ names g := fun x hx => by
    rcases List.mem_append.1 hx with h | h
    · exact (order_good g).sub x h
    · exact (mem_stuckP.1 h).1
  have h3 : ∀ x ∈ names g, x ∈ orderP g ++ stuckP g := fun x hx => by
    by_cases h : x ∈ orderP g
    · exact List.mem_append_left _ h
    · exact List.mem_append_right _ (mem_stuckP.2 ⟨hx, h⟩)
  have a1 := sub_len h1 h2
  have a2 := sub_len hg h3
  rw [List.length_append] at a1 a2
  simp only [names, List.length_map] at a1 a2
  omega
end Go.Proofs.Ytpdilplgdbcjpaa.Gr
namespace Go.Proofs.Ytpdilplgdbcjpaa.Gr
set_option linter.unusedVariables false
def placeF (s : Str) : List Str → Nat → Int
  | [], _ => -1
  | x :: r, k => if x = s then (k : Int) else placeF s r (k + 1)
def placeP (l : List Str) (s : Str) : Int := placeF s l 0
theorem placeF_mem (s : Str) : ∀ (l : List Str) (k : Nat), (0 ≤ placeF s l k ↔ s ∈ l) ∧ (s ∉ l → placeF s l k = -1) ∧ (s ∈ l → (k : Int) ≤ placeF s l k ∧ placeF s l k < k + l.length)
  | [], k => by simp [placeF]
  | x :: r, k => by
    obtain ⟨h1, h2, h3⟩ := placeF_mem s r (k + 1)
    rw [placeF]
    by_cases h : x = s
    · rw [if_pos h]
      subst h
      simp
      omega
    · rw [if_neg h]
      have hs : s ∈ x :: r ↔ s ∈ r := by rw [List.mem_cons]; exact ⟨fun h' => h'.resolve_left (fun e => h e.symm), .inr⟩
      rw [hs, List.length_cons]
      exact ⟨h1, h2, fun hm => by have := h3 hm; omega⟩
theorem place_mem {l : List Str} {s : Str} : 0 ≤ placeP l s ↔ s ∈ l := (placeF_mem s l 0).1
theorem place_not {l : List Str} {s : Str} (h : s ∉ l) : placeP l s = -1 := (placeF_mem s l 0).2.1 h
theorem placeF_take (s : Str) : ∀ (l : List Str) (k m : Nat), s ∈ l.take m → placeF s l k < k + m
  | [], k, m, h => by simp at h
  | x :: r, k, 0, h => by simp at h
  | x :: r, k, m + 1, h => by
    rw [placeF]
    by_cases hx : x = s
    · rw [if_pos hx]; omega
    · rw [if_neg hx]
      rw [List.take_succ_cons, List.mem_cons] at h
      have := placeF_take s r (k + 1) m (h.resolve_left (fun e => hx e.symm))
      omega
theorem place_take {l : List Str} {s : Str} {m : Nat} (h : s ∈ l.take m) : placeP l s < m := by have := placeF_take s l 0 m h; unfold placeP; omega
theorem placeF_at (s : Str) : ∀ (l : List Str) (k i : Nat), l.Nodup → l[i]? = some s → placeF s l k = (k + i : Nat)
  | [], k, i, _, h => by simp at h
  | x :: r, k, 0, _, h => by
    have : x = s := by simpa using h
    rw [placeF, if_pos this]; simp
  | x :: r, k, i + 1, hn, h => by
    have h' : r[i]? = some s := by simpa using h
    have hne : ¬ x = s := fun e => by
      subst e
      exact (List.nodup_cons.1 hn).1 (List.mem_of_getElem? h')
    rw [placeF, if_neg hne, placeF_at s r (k + 1) i (List.nodup_cons.1 hn).2 h']
    congr 1
    omega
theorem place_at {l : List Str} {s : Str} {i : Nat} (hn : l.Nodup) (h : l[i]? = some s) : placeP l s = i := by have := placeF_at s l 0 i hn h; unfold placeP; rw [this]; simp
theorem place_get {l : List Str} {s : Str} (h : s ∈ l) : ∃ i : Nat, placeP l s = i ∧ l[i]? = some s := by
  have hk : ∀ (l : List Str) (k : Nat), s ∈ l → ∃ i : Nat, placeF s l k = (k + i : Nat) ∧ l[i]? = some s := by
    intro l
    induction l with
    | nil => intro k h; simp at h
    | cons x r ih =>
      intro k h
      rw [placeF]
      by_cases hx : x = s
      · exact ⟨0, by rw [if_pos hx]; simp, by simp [hx]⟩
      · obtain ⟨i, h1, h2⟩ := ih (k + 1) ((List.mem_cons.1 h).resolve_left (fun e => hx e.symm))
        exact ⟨i + 1, by rw [if_neg hx, h1]; congr 1; omega, by simpa using h2⟩
  obtain ⟨i, h1, h2⟩ := hk l 0 h
  exact ⟨i, by unfold placeP; rw [h1]; simp, h2⟩
theorem nodesF_first : ∀ (l acc : List Nd) (i : Nat) (d : Nd), l[i]? = some d → d.name ∉ names acc → d.name ∉ names (l.take i) → d ∈ nodesF acc l
  | [], _, i, d, h, _, _ => by simp at h
  | a :: r, acc, 0, d, h, h1, _ => by
    have e : a = d := by simpa using h
    subst e
    rw [nodesF, if_neg (show ¬ a.name ∈ acc.map (·.name) from h1)]
    have hk : ∀ (l acc : List Nd), a ∈ acc → a ∈ nodesF acc l := by
      intro l
      induction l with
      | nil => intro acc h; exact h
      | cons b r ih =>
        intro acc h
        rw [nodesF]
        refine ih _ ?_
        split
        · exact h
        · exact List.mem_append_left _ h
    exact hk r _ (by simp)
  | a :: r, acc, i + 1, d, h, h1, h2 => by
    have h' : r[i]? = some d := by simpa using h
    rw [List.take_succ_cons] at h2
    simp only [names, List.map_cons, List.mem_cons, not_or] at h2
    rw [nodesF]
    refine nodesF_first r _ i d h' ?_ h2.2
    split
    · exact h1
    · simp only [names, List.map_append, List.mem_append, List.map_cons, List.map_nil, List.mem_singleton, not_or]
      exact ⟨h1, h2.1⟩
theorem nodes_first {l : List Nd} {i : Nat} {d : Nd} (h : l[i]? = some d) (h2 : placeP (names (l.take i)) d.name < 0) : d ∈ nodes l :=
  nodesF_first l [] i d h (by simp [names]) (fun hm => by have := place_mem.2 hm; omega)
/-- GraphBehind: in order or stuck, not both. -/
theorem behind_one {l : List Nd} {d : Nd} (h : d ∈ nodes l) : decide (0 ≤ placeP (orderP (nodes l)) d.name) ≠ decide (0 ≤ placeP (stuckP (nodes l)) d.name) := by
  have hn : d.name ∈ names (nodes l) := List.mem_map.2 ⟨d, h, rfl⟩
  simp only [place_mem, mem_stuckP, hn, true_and]
  by_cases h1 : d.name ∈ orderP (nodes l) <;> simp [h1]
theorem behind_imp {l : List Nd} {d : Nd} (h : d ∈ nodes l) (ha : 0 ≤ placeP (orderP (nodes l)) d.name) {y : Str} (hy : y ∈ d.imps) : placeP (orderP (nodes l)) y < placeP (orderP (nodes l)) d.name ∧ placeP (stuckP (nodes l)) y < 0 := by
  obtain ⟨i, h1, h2⟩ := place_get (place_mem.1 ha)
  by_cases hy2 : y ∈ names (nodes l)
  · have h3 : y ∈ impsOf (nodes l) d.name := by rw [impsOf_node (nodes_nodup l) h]; exact List.mem_filter.2 ⟨hy, by simpa using hy2⟩
    have h4 := (order_good (nodes l)).behind i _ h2 y h3
    have h5 := place_take h4
    have h6 : y ∉ stuckP (nodes l) := fun hm => (mem_stuckP.1 hm).2 (List.mem_of_mem_take h4)
    have h7 := place_not h6
    omega
  · have h3 := place_not (fun hm => hy2 ((order_good (nodes l)).sub y hm))
    have h4 := place_not (fun hm => hy2 (mem_stuckP.1 hm).1)
    omega
theorem order_place {g : List Nd} {i : Nat} {x : Str} (h : (orderP g)[i]? = some x) : placeP (orderP g) x = i := place_at (order_good g).nd h
/-- GraphStuck. -/
theorem stuck_cyc {g : List Nd} {x : Str} (h : x ∈ cycP g) : 0 ≤ placeP (stuckP g) x := place_mem.2 (cyclic_stuck (mem_cycP.1 h).1 (mem_cycP.1 h).2)
theorem stuck_iff {l : List Nd} {d : Nd} (h : d ∈ nodes l) : (decide (0 ≤ placeP (cycP (nodes l)) d.name) || d.imps.any (fun y => decide (0 ≤ placeP (stuckP (nodes l)) y))) = decide (0 ≤ placeP (stuckP (nodes l)) d.name) := by
  have hn : d.name ∈ names (nodes l) := List.mem_map.2 ⟨d, h, rfl⟩
  rw [Bool.eq_iff_iff, Bool.or_eq_true, decide_eq_true_iff, decide_eq_true_iff, List.any_eq_true, place_mem, place_mem]
  constructor
  · rintro (h1 | ⟨y, h1, h2⟩)
    · exact cyclic_stuck (mem_cycP.1 h1).1 (mem_cycP.1 h1).2
    · rw [decide_eq_true_iff, place_mem] at h2
      refine mem_stuckP.2 ⟨hn, fun ho => (mem_stuckP.1 h2).2 (order_imp ho ?_)⟩
      rw [impsOf_node (nodes_nodup l) h]
      exact List.mem_filter.2 ⟨h1, by simpa using (mem_stuckP.1 h2).1⟩
  · intro h1
    obtain ⟨y, h2, h3⟩ := stuck_imp h1
    rw [impsOf_node (nodes_nodup l) h] at h2
    exact .inr ⟨y, (List.mem_filter.1 h2).1, by rw [decide_eq_true_iff, place_mem]; exact h3⟩
/-- GraphTurns. -/
theorem distinct_of {l : List Nd} (h : ∀ (i : Nat) d, l[i]? = some d → placeP (names (l.take i)) d.name < 0) : (names l).Nodup := by
  unfold names
  rw [List.nodup_iff_pairwise_ne, List.pairwise_iff_getElem]
  intro i j hi hj hij e
  rw [List.length_map] at hi hj
  have h1 := h j l[j] (List.getElem?_eq_getElem hj)
  have h2 : l[j].name ∈ names (l.take j) := List.mem_map.2 ⟨l[i], by rw [List.mem_take_iff_getElem]; exact ⟨i, by omega, rfl⟩, by simpa using e⟩
  have := place_mem.2 h2
  omega
theorem turned_rev {l : List Nd} (h : (names l).Nodup) : orderP (nodes l.reverse) = orderP (nodes l) ∧ stuckP (nodes l.reverse) = stuckP (nodes l) ∧ cycP (nodes l.reverse) = cycP (nodes l) := by
  have h2 : (names l.reverse).Nodup := by unfold names; rw [List.map_reverse]; exact (List.reverse_perm _).nodup_iff.2 h
  rw [nodes_of_nodup h, nodes_of_nodup h2]
  exact turned h h2 (by simp) (by simp)
/-- GraphGrows. -/
theorem grown_more {l : List Nd} {d : Nd} (hd : placeP (names l) d.name < 0) (hu : ∀ e ∈ nodes l, d.name ∉ e.imps) : nodes (l ++ [d]) = nodes l ++ [d] ∧ Grown (nodes l) (nodes (l ++ [d])) d.name := by
  have hn : d.name ∉ names l := fun hm => by have := place_mem.2 hm; omega
  have hn2 : d.name ∉ names (nodes l) := fun hm => hn ((mem_names_nodes l _).1 hm)
  have e : nodes (l ++ [d]) = nodes l ++ [d] := by rw [nodes_snoc, if_neg hn2]
  exact ⟨e, by rw [e]; exact Grown.of (nodes_nodup l) hn2 hu⟩
end Go.Proofs.Ytpdilplgdbcjpaa.Gr
namespace Go.Proofs.Ytpdilplgdbcjpaa.Gr
set_option linter.unusedVariables false
/-! ### With, as its loop goes -/
theorem insS_end {s : Str} : ∀ {l : List Str}, (∀ x ∈ l, ¬ s < x) → insS s l = l ++ [s]
  | [], _ => rfl
  | a :: r, h => by rw [insS, if_neg (h a List.mem_cons_self), insS_end (fun x hx => h x (List.mem_cons_of_mem _ hx))]; rfl
theorem insS_more {s y : Str} : ∀ {l : List Str}, (∃ x ∈ l, s < x) → insS s (l ++ [y]) = insS s l ++ [y]
  | [], h => by obtain ⟨x, hx, _⟩ := h; simp at hx
  | a :: r, h => by
    rw [List.cons_append, insS, insS]
    by_cases ha : s < a
    · rw [if_pos ha, if_pos ha]; rfl
    · rw [if_neg ha, if_neg ha, insS_more]
      · rfl
      · obtain ⟨x, hx, hs⟩ := h
        rcases List.mem_cons.1 hx with rfl | hx
        · exact absurd hs ha
        · exact ⟨x, hx, hs⟩
theorem insS_here {s y : Str} : ∀ {l : List Str}, (∀ x ∈ l, ¬ s < x) → s < y → insS s (l ++ [y]) = l ++ [s, y]
  | [], _, hy => by rw [List.nil_append, insS, if_pos hy]; rfl
  | a :: r, h, hy => by rw [List.cons_append, insS, if_neg (h a List.mem_cons_self), insS_here (fun x hx => h x (List.mem_cons_of_mem _ hx)) hy]; rfl
/-- The loop of With behind k names: what is out, and whether the name is in. -/
def WithI (l : List Str) (s : Str) (k : Nat) (out : List Str) (done : Bool) : Prop :=
  (s ∈ l ∧ done = true ∧ out = l.take k) ∨ (s ∉ l ∧ ((done = false ∧ out = l.take k ∧ ∀ x ∈ l.take k, ¬ s < x) ∨ (done = true ∧ out = insS s (l.take k) ∧ ∃ x ∈ l.take k, s < x)))
theorem WithI.start (l : List Str) (s : Str) : WithI l s 0 [] (decide (s ∈ l)) := by
  by_cases h : s ∈ l
  · exact .inl ⟨h, by simp [h], rfl⟩
  · exact .inr ⟨h, .inl ⟨by simp [h], rfl, by simp⟩⟩
theorem WithI.put {l : List Str} {s x : Str} {k : Nat} {out : List Str} (h : WithI l s k out false) (hx : l[k]? = some x) (hlt : s < x) : WithI l s (k + 1) (out ++ [s] ++ [x]) true := by
  have ht : l.take (k + 1) = l.take k ++ [x] := by rw [List.take_add_one, hx]; rfl
  rcases h with ⟨_, h, _⟩ | ⟨hn, ⟨_, h2, h3⟩ | ⟨h, _⟩⟩
  · cases h
  · refine .inr ⟨hn, .inr ⟨rfl, ?_, x, by rw [ht]; simp, hlt⟩⟩
    rw [ht, insS_here h3 hlt, h2]
    simp
  · cases h
theorem WithI.pass {l : List Str} {s x : Str} {k : Nat} {out : List Str} {done : Bool} (h : WithI l s k out done) (hx : l[k]? = some x) (hlt : done = true ∨ ¬ s < x) : WithI l s (k + 1) (out ++ [x]) done := by
  have ht : l.take (k + 1) = l.take k ++ [x] := by rw [List.take_add_one, hx]; rfl
  rcases h with ⟨h1, h2, h3⟩ | ⟨hn, ⟨h1, h2, h3⟩ | ⟨h1, h2, h3⟩⟩
  · exact .inl ⟨h1, h2, by rw [ht, h3]⟩
  · refine .inr ⟨hn, .inl ⟨h1, by rw [ht, h2], fun y hy => ?_⟩⟩
    rw [ht] at hy
    rcases List.mem_append.1 hy with hy | hy
    · exact h3 y hy
    · simp at hy
      subst hy
      rcases hlt with hd | hd
      · rw [h1] at hd; cases hd
      · exact hd
  · refine .inr ⟨hn, .inr ⟨h1, by rw [ht, insS_more h3, h2], ?_⟩⟩
    obtain ⟨y, hy, hs⟩ := h3
    exact ⟨y, by rw [ht]; exact List.mem_append_left _ hy, hs⟩
theorem WithI.done {l : List Str} {s : Str} {out : List Str} (h : WithI l s l.length out true) : out = withS l s := by
  unfold WithI at h
  rw [List.take_length] at h
  unfold withS
  rcases h with ⟨h1, _, h3⟩ | ⟨hn, ⟨h1, _⟩ | ⟨_, h2, _⟩⟩
  · rw [if_pos h1, h3]
  · cases h1
  · rw [if_neg hn, h2]
theorem WithI.last {l : List Str} {s : Str} {out : List Str} (h : WithI l s l.length out false) : out ++ [s] = withS l s := by
  unfold WithI at h
  rw [List.take_length] at h
  unfold withS
  rcases h with ⟨_, h1, _⟩ | ⟨hn, ⟨_, h2, h3⟩ | ⟨h1, _⟩⟩
  · cases h1
  · rw [if_neg hn, insS_end h3, h2]
  · cases h1

/-! ### Ready, stuck, cyclic, users: rows of those nodes of which something holds -/
def rowIf (g : List Nd) (p : Str → Bool) : List Str := canon ((names g).filter p)
theorem rowIf_snoc (g : List Nd) (d : Nd) (p : Str → Bool) : rowIf (g ++ [d]) p = if p d.name then withS (rowIf g p) d.name else rowIf g p := by
  unfold rowIf names
  rw [List.map_append, List.filter_append]
  by_cases h : p d.name
  · rw [if_pos h]
    simp [h, canon_snoc]
  · rw [if_neg h]
    simp [h]
theorem readyL_row (g : List Nd) (done : List Str) : readyL g done = rowIf g (isReady g done) := rfl
theorem stuckP_row (g : List Nd) : stuckP g = rowIf g (fun n => decide (n ∉ orderP g)) := rfl
/-- The document's test of one node: not done, and whatever it imports that is a node is done. -/
theorem isReady_node {g : List Nd} (hg : (names g).Nodup) {d : Nd} (hd : d ∈ g) (done : List Str) : isReady g done d.name = (decide (d.name ∉ done) && d.imps.all (fun i => decide (i ∉ names g) || decide (i ∈ done))) := by
  unfold isReady
  rw [impsOf_node hg hd, List.all_filter]
  congr 2
  funext i
  by_cases h : i ∈ names g <;> simp [h]
def usersP (g : List Nd) (n : Str) : List Str := canon ((g.filter (fun d => decide (n ∈ d.imps))).map (·.name))
theorem usersP_snoc (g : List Nd) (d : Nd) (n : Str) : canon (((g ++ [d]).filter (fun d => decide (n ∈ d.imps))).map (·.name)) = if n ∈ d.imps then withS (usersP g n) d.name else usersP g n := by
  unfold usersP
  rw [List.filter_append, List.map_append]
  by_cases h : n ∈ d.imps
  · rw [if_pos h]
    simp [h, canon_snoc]
  · rw [if_neg h]
    simp [h]
theorem usersP_nil {g : List Nd} {n : Str} : usersP g n = [] ↔ ∀ d ∈ g, n ∉ d.imps := by
  unfold usersP
  rw [canon_nil, List.map_eq_nil_iff, List.filter_eq_nil_iff]
  simp

/-! ### The document's imports -/
def impRow (g : List Nd) (n : Str) (l : List Nd) : List Str := (l.filter (fun d => decide (d.name = n))).flatMap (fun d => d.imps.filter (fun i => decide (i ∈ names g)))
theorem impRow_all {g : List Nd} (hg : (names g).Nodup) (n x : Str) : x ∈ impRow g n g ↔ x ∈ impsOf g n := by
  unfold impRow
  rw [List.mem_flatMap]
  constructor
  · rintro ⟨d, hd, hx⟩
    obtain ⟨h1, h2⟩ := List.mem_filter.1 hd
    have e : d.name = n := by simpa using h2
    subst e
    rw [impsOf_node hg h1]
    exact hx
  · intro hx
    by_cases hn : n ∈ names g
    · obtain ⟨d, hd, rfl⟩ := List.mem_map.1 hn
      rw [impsOf_node hg hd] at hx
      exact ⟨d, List.mem_filter.2 ⟨hd, by simp⟩, hx⟩
    · have : g.find? (fun d => decide (d.name = n)) = none := List.find?_eq_none.2 (fun d hd => by simp; exact fun e => hn (List.mem_map.2 ⟨d, hd, e⟩))
      unfold impsOf at hx
      rw [this] at hx
      simp at hx
theorem impRow_canon {g : List Nd} (hg : (names g).Nodup) (n : Str) : canon (impRow g n g) = canon (impsOf g n) := canon_eq (impRow_all hg n)
theorem impRow_snoc (g l : List Nd) (d : Nd) (n : Str) : impRow g n (l ++ [d]) = impRow g n l ++ (if d.name = n then d.imps.filter (fun i => decide (i ∈ names g)) else []) := by
  unfold impRow
  rw [List.filter_append, List.flatMap_append]
  by_cases h : d.name = n <;> simp [h]

/-! ### How long a search goes -/
theorem seek_len {g : List Nd} {n : Str} {seen more : List Str} (h : Seek g n seen more) (hs : seen.Nodup) : seen.length ≤ g.length := by
  have := sub_len hs (m := names g) (fun x hx => (h.ok x (.inl hx)).names)
  simpa [names] using this
def seekM (g : List Nd) (seen more : List Str) : Nat := (g.length - seen.length) * (g.length + 1) + more.length
theorem seekM_skip (g : List Nd) (seen : List Str) (a : Str) (more : List Str) : seekM g seen more < seekM g seen (a :: more) := by unfold seekM; rw [List.length_cons]; omega
theorem imps_len (g : List Nd) (a : Str) : (canon (impsOf g a)).length ≤ g.length := by
  have := sub_len (canon_up (impsOf g a)).nodup (m := names g) (fun x hx => impsOf_sub ((mem_canon _ _).1 hx))
  simpa [names] using this
theorem seekM_see {g : List Nd} {seen seen' more more' : List Str} {a : Str} (hs : seen.length < g.length) (hs' : seen'.length = seen.length + 1) (hm : more'.length ≤ more.length + g.length) : seekM g seen' more' < seekM g seen (a :: more) := by
  unfold seekM
  rw [List.length_cons, hs', show g.length - seen.length = (g.length - (seen.length + 1)) + 1 by omega, Nat.add_mul]
  omega
/-- Who is not seen yet leaves room. -/
theorem seek_room {g : List Nd} {n a : Str} {seen more : List Str} (h : Seek g n seen (a :: more)) (hs : seen.Nodup) (ha : a ∉ seen) : seen.length < g.length := by
  have := sub_len (List.nodup_cons.2 ⟨ha, hs⟩) (m := names g) (fun x hx => by
    rcases List.mem_cons.1 hx with rfl | hx
    · exact (h.ok x (.inr List.mem_cons_self)).names
    · exact (h.ok x (.inl hx)).names)
  simp only [List.length_cons, names, List.length_map] at this
  omega
end Go.Proofs.Ytpdilplgdbcjpaa.Gr
namespace Go.Proofs.Ytpdilplgdbcjpaa.Gr
set_option linter.unusedVariables false
theorem up_of_le : ∀ {l : List Str}, l.Pairwise (fun x y => x ≤ y) → l.Nodup → Up l
  | [], _, _ => trivial
  | a :: r, hs, hn => by
    rw [List.pairwise_cons] at hs
    rw [List.nodup_cons] at hn
    refine Up.cons (up_of_le hs.2 hn.2) fun x hx => ?_
    rcases lt_tri a x with h | h | h
    · exact h
    · subst h; exact absurd hx hn.1
    · exact absurd h (List.not_lt.2 (hs.1 x hx))
theorem sort_canon {ss m : List Str} (hn : ss.Nodup) (h : ∀ x, x ∈ ss ↔ x ∈ m) : ss.mergeSort (fun x y => decide (x ≤ y)) = canon m := by
  have hp := List.mergeSort_perm ss (fun x y => decide (x ≤ y))
  have hs : (ss.mergeSort (fun x y => decide (x ≤ y))).Pairwise (fun x y => x ≤ y) := by
    have h1 := List.pairwise_mergeSort (le := fun x y : Str => decide (x ≤ y)) (fun a b c h1 h2 => by
      simp only [decide_eq_true_iff] at h1 h2 ⊢
      exact List.le_trans h1 h2) (fun a b => by
      simp only [Bool.or_eq_true, decide_eq_true_iff]
      exact List.le_total a b) ss
    exact h1.imp (fun h => by simpa using h)
  exact (up_of_le hs (hp.nodup_iff.2 hn)).ext (canon_up m) (fun x => by rw [hp.mem_iff, h, mem_canon])
end Go.Proofs.Ytpdilplgdbcjpaa.Gr
