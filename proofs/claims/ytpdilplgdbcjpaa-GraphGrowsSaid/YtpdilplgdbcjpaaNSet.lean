/- Sets of names and maps from names: maps with strings for keys, written, asked, ranged over. -/
import Derived.Test.YtpdilplgdbcjpaaSMap
import Derived.Test.YtpdilplgdbcjpaaGrD
import Derived.Sort.KeysCollected
import Derived.Maps.RangeWalk
namespace Go.Proofs.Ytpdilplgdbcjpaa
open Go.RowKit Go.Maps Go.WideMaps
set_option linter.unusedVariables false
abbrev Str := List UInt8

/-- What a map holds: at each name of S what g says. -/
def mapF (S : List Str) (g : Str → Value) : Str → Option Value := fun x => if x ∈ S then some (g x) else none
abbrev tt : Str → Value := fun _ => .bool true
theorem mapF_in {S : List Str} {g : Str → Value} {x : Str} (h : x ∈ S) : mapF S g x = some (g x) := if_pos h
theorem mapF_out {S : List Str} {g : Str → Value} {x : Str} (h : x ∉ S) : mapF S g x = none := if_neg h
theorem mapF_nil (g : Str → Value) : (fun _ => none) = mapF [] g := by funext x; simp [mapF]
theorem mapF_congr {S T : List Str} {g h : Str → Value} (hs : ∀ x, x ∈ S ↔ x ∈ T) (hg : ∀ x ∈ S, g x = h x) : mapF S g = mapF T h := by
  funext x
  unfold mapF
  by_cases hx : x ∈ S
  · rw [if_pos hx, if_pos ((hs x).1 hx), hg x hx]
  · rw [if_neg hx, if_neg (fun h => hx ((hs x).2 h))]
theorem mapF_set {S T : List Str} {g : Str → Value} (hs : ∀ x, x ∈ S ↔ x ∈ T) : mapF S g = mapF T g := mapF_congr hs (fun _ _ => rfl)
theorem mapF_put {S : List Str} {g h : Str → Value} {s : Str} {v : Value} (hv : h s = v) (hg : ∀ x, x ≠ s → h x = g x) : (fun x => if x = s then some v else mapF S g x) = mapF (s :: S) h := by
  funext x
  unfold mapF
  by_cases hx : x = s
  · subst hx; simp [hv]
  · simp [hx, hg x hx]
theorem setF_put {S : List Str} {s : Str} : (fun x => if x = s then some (.bool true) else mapF S tt x) = mapF (s :: S) tt := mapF_put rfl (fun _ _ => rfl)
theorem setF_get (S : List Str) (x : Str) : (mapF S tt x).getD (.bool false) = .bool (decide (x ∈ S)) := by
  unfold mapF
  by_cases h : x ∈ S <;> simp [h]
theorem mapF_some (S : List Str) (g : Str → Value) (x : Str) : (mapF S g x).isSome = decide (x ∈ S) := by
  unfold mapF
  by_cases h : x ∈ S <;> simp [h]

section
variable {P : Program} {k : TypeId} {w w' : World} {b r n : Nat} {f : Str → Option Value} {ss : List Str}

theorem smap_has {D : DataW Value} (h : ∀ s z, D.atKey (.string s) z = match f s with | some v => .held v | none => z) (x : Str) : Maps.has D (.string x) = (f x).isSome := by
  cases hf : f x with
  | none => rw [Maps.has_false_of_atKey (fun z => by rw [h, hf])]; rfl
  | some v => rw [Maps.has_true_of_atKey (y := .held v) (fun z => by rw [h, hf])]; rfl
/-- How many entries there are. -/
theorem ownsMap_size {H : Type} {R : Value → Option (DataW H × List MemPlace)} {D : DataW H} (h : w.ownsMap P k R b n D) : Maps.size D ≤ n := by
  obtain ⟨es, clock, _, _, hn, rfl⟩ := h
  simp only [Maps.size, length_sorted, List.length_map, Array.length_toList]
  exact hn

/-- A range over the map at b under way (iterator r): ss: the names that have come. -/
def SRange (P : Program) (k : TypeId) (w : World) (b r n : Nat) (f : Str → Option Value) (ss : List Str) : Prop :=
  ∃ D left cnt, w.ranges P k rdV b r n D left cnt ∧ Collected D left ss ∧ ∀ s z, D.atKey (.string s) z = match f s with | some v => .held v | none => z
theorem SRange.map (h : SRange P k w b r n f ss) : SMap P k w b n f := by
  obtain ⟨D, left, cnt, h1, _, h3⟩ := h
  exact ⟨D, h1.owns, h3⟩
theorem SRange.lt (h : SRange P k w b r n f ss) : r < w.heap.size := by
  obtain ⟨D, left, cnt, h1, _, _⟩ := h
  exact h1.lt
theorem SRange.ne (h : SRange P k w b r n f ss) : r ≠ b := by
  obtain ⟨D, left, cnt, h1, _, _⟩ := h
  exact h1.ne
theorem SRange.kept {row : Option Nat} (h : SRange P k w b r n f ss) (hg : w.grownBy w' row) (hb : some b ≠ row) (hr : some r ≠ row) : SRange P k w' b r n f ss := by
  obtain ⟨D, left, cnt, h1, h2, h3⟩ := h
  exact ⟨D, left, cnt, h1.kept hg hb hr, h2, h3⟩
theorem SRange.later (h : SRange P k w b r n f ss) (hb : Below w.heap.size w w') : SRange P k w' b r n f ss :=
  h.kept (row := none) ⟨hb.os, hb.tape, hb.output, hb.size, fun i hi _ => hb.block i hi⟩ (by simp) (by simp)
theorem SRange.left_le (h : SRange P k w b r n f ss) (hb : w'.heap[b]? = w.heap[b]?) (hr : w'.heap[r]? = w.heap[r]?) : w'.rangeLeft b r = w.rangeLeft b r := by
  simp only [World.rangeLeft, hb, hr]
theorem SRange.nodup (h : SRange P k w b r n f ss) : ss.Nodup := by
  obtain ⟨D, left, cnt, _, h2, _⟩ := h
  exact h2.1
theorem SRange.sub (h : SRange P k w b r n f ss) : ∀ x ∈ ss, (f x).isSome = true := by
  obtain ⟨D, left, cnt, _, h2, h3⟩ := h
  intro x hx
  rw [← smap_has h3]
  exact ((h2.2 x).1 hx).1
theorem SMap.range (h : SMap P k w b n f) {t e : TypeId} (hk : P.underlying k = some .string) (ht : P.underlying t = some (.map k e)) :
    ∃ w', (Instr.range t (.map (some b))).run P w = .ok (.pointer (some ⟨w.heap.size, 0, none⟩)) w' ∧ SRange P k w' b w.heap.size n f [] ∧ w.grownBy w' none ∧ w'.heap.size = w.heap.size + 1 := by
  obtain ⟨D, h1, h2⟩ := h
  obtain ⟨w', e1, e2, e3, e4⟩ := h1.range (string_keyed hk) ht
  exact ⟨w', e1, ⟨D, _, _, e2, Collected.start D, h2⟩, e3, e4⟩
theorem SRange.next (h : SRange P k w b r n f ss) (hk : P.underlying k = some .string) (ty : TypeId) :
    ((∀ x, x ∈ ss ↔ (f x).isSome = true) ∧ (Instr.next (.pointer (some ⟨r, 0, none⟩)) false ty).run P w = .ok (.tuple #[.bool false]) w) ∨
    ∃ x v w', f x = some v ∧ x ∉ ss ∧ x.length ≤ maxLen ∧ (Instr.next (.pointer (some ⟨r, 0, none⟩)) false ty).run P w = .ok (.tuple #[.bool true, encStr x, v]) w' ∧
      SRange P k w' b r n f (ss ++ [x]) ∧ w'.rangeLeft b r < w.rangeLeft b r ∧ w.grownBy w' (some r) ∧ w'.heap.size = w.heap.size ∧ (Instr.entry (.pointer (some ⟨r, 0, none⟩))).run P w' = .ok (.tuple #[encStr x, v]) w' := by
  obtain ⟨D, left, cnt, h1, h2, h3⟩ := h
  rcases h1.next (string_keyed hk) ty with ⟨e0, e1, e2⟩ | ⟨key, v, kl, y, w', cnt', hkey, hlk, hv, hat, hrun, hrg, hlt, hgr, hsz, hen⟩
  · refine .inl ⟨fun x => ?_, e2⟩
    rw [h2.2 x, smap_has h3, e1]
    simp
  · obtain ⟨x, rfl, rfl, hl⟩ := Maps.keyOf_str hk hkey
    refine .inr ⟨x, v, w', ?_, ?_, hl, hrun, ⟨D, _, cnt', hrg, h2.step hlk hat, h3⟩, by rw [hrg.left_eq, h1.left_eq]; exact hlt, hgr, hsz, hen⟩
    · have a1 := (hat .nil).symm.trans (h3 x .nil)
      unfold rdV at hv
      injection hv with hv
      subst hv
      cases hf : f x with
      | none => rw [hf] at a1; cases a1
      | some u => rw [hf] at a1; injection a1 with a1; rw [a1]
    · intro hx
      have := ((h2.2 x).1 hx).2
      rw [hlk] at this
      cases this
end

/-- 'range m' at the operation. -/
theorem wpList_range_smap {P : Program} {ops : Array Oper} {rest : List Oper} {o : Oper} {a : Act} {Q : Exit → Act → World → Prop} {w : World} (hg : o.guard = none) (m : Operand) (t : TypeId) (hop : o.op = Op.range t m)
    (k e : TypeId) (hk : P.underlying k = some .string) (ht : P.underlying t = some (.map k e)) (b n : Nat) (f : Str → Option Value) (hm : a.eval m = .map (some b)) (h : SMap P k w b n f)
    (hK : ∀ w', SRange P k w' b w.heap.size n f [] → w.grownBy w' none → w'.heap.size = w.heap.size + 1 → wpList P ops Q rest (a.put o.dst (.pointer (some ⟨w.heap.size, 0, none⟩))) w') :
    wpList P ops Q (o :: rest) a w := by
  refine wpList_plain hg fun K' hK' => ?_
  obtain ⟨w', hrun, r1, r2, r3⟩ := h.range hk ht
  unfold Oper.wp
  simp [execOp, hop, hm, hrun, Result.andThen]
  exact hK' _ _ (hK w' r1 r2 r3)
/-- The range's step at the operation. -/
theorem wpList_next_smap {P : Program} {ops : Array Oper} {rest : List Oper} {o : Oper} {a : Act} {Q : Exit → Act → World → Prop} {w : World} (hg : o.guard = none) (it : Operand) (hop : o.op = Op.next it false)
    (k : TypeId) (hk : P.underlying k = some .string) (b r n : Nat) (S : List Str) (g : Str → Value) (ss : List Str) (hit : a.eval it = .pointer (some ⟨r, 0, none⟩)) (h : SRange P k w b r n (mapF S g) ss)
    (hDone : (∀ x, x ∈ ss ↔ x ∈ S) → wpList P ops Q rest (a.put o.dst (.tuple #[.bool false])) w)
    (hMore : ∀ (x : Str) (w' : World), x ∈ S → x ∉ ss → x.length ≤ maxLen → SRange P k w' b r n (mapF S g) (ss ++ [x]) → w'.rangeLeft b r < w.rangeLeft b r → w.grownBy w' (some r) → w'.heap.size = w.heap.size →
      (Instr.entry (.pointer (some ⟨r, 0, none⟩))).run P w' = .ok (.tuple #[encStr x, g x]) w' → wpList P ops Q rest (a.put o.dst (.tuple #[.bool true, encStr x, g x])) w') :
    wpList P ops Q (o :: rest) a w := by
  refine wpList_plain hg fun K' hK' => ?_
  unfold Oper.wp
  rcases h.next hk o.type with ⟨hl, hrun⟩ | ⟨x, v, w', hfx, hss, hl, hrun, hrg, hlt, hgr, hsz, hen⟩
  · simp [execOp, hop, hit, hrun, Result.andThen]
    exact hK' _ _ (hDone (fun x => by rw [hl x, mapF_some]; simp))
  · have hxS : x ∈ S := by
      apply Classical.byContradiction
      intro hn
      rw [mapF_out hn] at hfx
      cases hfx
    obtain rfl : g x = v := by rw [mapF_in hxS] at hfx; exact Option.some.inj hfx
    simp [execOp, hop, hit, hrun, Result.andThen]
    exact hK' _ _ (hMore x w' hxS hss hl hrg hlt hgr hsz hen)
end Go.Proofs.Ytpdilplgdbcjpaa
