/- Maps of the call's own with strings for keys: read as functions. -/
import Derived.Test.YtpdilplgdbcjpaaBase
import Derived.Maps.Views
import Derived.Maps.OwnOps
import Derived.Maps.OwnSet
namespace Go.Proofs.Ytpdilplgdbcjpaa
open Go.RowKit Go.Maps Go.WideMaps
set_option linter.unusedVariables false

/-- How an element's value reads: as itself. -/
def rdV (v : Value) : Option (DataW Value × List MemPlace) := some (.held v, [])

/-- Block b is a map with keys of the string type k, of at most n entries: f tells what stands at a key. -/
def SMap (P : Program) (k : TypeId) (w : World) (b n : Nat) (f : List UInt8 → Option Value) : Prop :=
  ∃ D : DataW Value, w.ownsMap P k rdV b n D ∧ ∀ s z, D.atKey (.string s) z = match f s with | some v => .held v | none => z

section
variable {P : Program} {k : TypeId} {w w' : World} {b n : Nat} {f : List UInt8 → Option Value}
theorem SMap.made (w : World) : SMap P k (w.alloc (.map #[] 0)) w.heap.size 0 (fun _ => none) := ⟨_, World.ownsMap_made w P k rdV, fun s z => rfl⟩
theorem SMap.mono (h : SMap P k w b n f) {m : Nat} (hm : n ≤ m) : SMap P k w b m f := by
  obtain ⟨D, h1, h2⟩ := h
  exact ⟨D, h1.mono hm, h2⟩
theorem SMap.lt (h : SMap P k w b n f) : b < w.heap.size := by
  obtain ⟨D, h1, _⟩ := h
  exact h1.lt
theorem SMap.same (h : SMap P k w b n f) (he : w'.heap[b]? = w.heap[b]?) : SMap P k w' b n f := by
  obtain ⟨D, ⟨es, clock, hb, rest⟩, h2⟩ := h
  exact ⟨D, ⟨es, clock, he.trans hb, rest⟩, h2⟩
theorem SMap.kept {row : Option Nat} (h : SMap P k w b n f) (hg : w.grownBy w' row) (hne : some b ≠ row) : SMap P k w' b n f := h.same (hg.block b h.lt hne)
theorem SMap.alloc (h : SMap P k w b n f) (o : Obj) : SMap P k (w.alloc o) b n f := h.kept (World.grownBy_alloc w o none) (by simp)
theorem SMap.later (h : SMap P k w b n f) (hb : Below w.heap.size w w') : SMap P k w' b n f := h.same (hb.block b h.lt)
theorem SMap.drewN (h : SMap P k w b n f) (m : Nat) : SMap P k (w.drewN m) b n f := h
/-- It is no row of cells. -/
theorem SMap.not_cells (h : SMap P k w b n f) : ∃ es clock, w.heap[b]? = some (.map es clock) := by
  obtain ⟨D, ⟨es, clock, hb, _⟩, _⟩ := h
  exact ⟨_, _, hb⟩

theorem SMap.look (h : SMap P k w b n f) {t e : TypeId} (hk : P.underlying k = some .string) (ht : P.underlying t = some (.map k e)) {z : Value} (hz : (zeroValue e).run P w = .ok z w) (c : Bool) (s : ByteArray) (hs : s.size ≤ maxLen) :
    (Instr.lookup t (.map (some b)) (.string s) c).run P w = .ok (if c then .tuple #[(f s.data.toList).getD z, .bool (f s.data.toList).isSome] else (f s.data.toList).getD z) w := by
  obtain ⟨D, ⟨es, clock, hb, F, _, rfl⟩, h2⟩ := h
  have hkey := keyOf_string_mk hk hs
  have h3 := h2 s.data.toList
  rcases Maps.fit_look c (string_keyed hk) ht hz hb F hkey with ⟨hrun, _, hat⟩ | ⟨e0, y, _, _, hrun, hRv, hat, _⟩
  · have h4 := (h3 (.held z)).symm.trans (hat (.held z))
    have h5 := (h3 .nil).symm.trans (hat .nil)
    cases hf : f s.data.toList with
    | none => rw [hrun]; simp
    | some v => rw [hf] at h5; cases h5
  · have h5 := (h3 .nil).symm.trans (hat .nil)
    unfold rdV at hRv
    injection hRv with hRv
    subst hRv
    cases hf : f s.data.toList with
    | none => rw [hf] at h5; cases h5
    | some v =>
      rw [hf] at h5
      injection h5 with h5
      subst h5
      rw [hrun]; simp

theorem SMap.put (h : SMap P k w b n f) {t e : TypeId} (hk : P.underlying k = some .string) (ht : P.underlying t = some (.map k e)) (hn : n < maxLen) (s : ByteArray) (hs : s.size ≤ maxLen) (v : Value) :
    ∃ w', (Instr.mapUpdate t (.map (some b)) (.string s) v).run P w = .ok () w' ∧ SMap P k w' b (n + 1) (fun x => if x = s.data.toList then some v else f x) ∧ w.grownBy w' (some b) := by
  obtain ⟨D, hown, h2⟩ := h
  obtain ⟨w', hrun, r1, r2⟩ := hown.update (string_keyed hk) ht hn (val := v) (keyOf_string_mk hk hs) (kl := .string s.data.toList) (d := .held v) (ps := []) rfl
  refine ⟨w', hrun, ⟨_, r1, fun x z => ?_⟩, r2⟩
  have hD : IsMap D := by
    obtain ⟨es, clock, _, _, _, rfl⟩ := hown
    exact ⟨_, rfl⟩
  by_cases hx : x = s.data.toList
  · subst hx
    rw [atKey_put_same hD (by simp [WideAt.IsKeyLit])]
    simp only [if_pos]
  · rw [atKey_put_other (by intro e; exact hx (by injection e)), h2]
    simp only [if_neg hx]
end

/-- 'm[s] = v' at the operation. -/
theorem wpList_put_smap {P : Program} {ops : Array Oper} {rest : List Oper} {o : Oper} {a : Act} {Q : Exit → Act → World → Prop} {w : World} (hg : o.guard = none) (m x v : Operand) (t : TypeId) (hop : o.op = Op.mapUpdate t m x v)
    (k e : TypeId) (hk : P.underlying k = some .string) (ht : P.underlying t = some (.map k e)) (b n : Nat) (f : List UInt8 → Option Value) (hm : a.eval m = .map (some b)) (h : SMap P k w b n f) (hn : n < maxLen)
    (s : ByteArray) (hs : s.size ≤ maxLen) (val : Value) (hx : a.eval x = .string s) (hv : a.eval v = val)
    (hK : ∀ w', SMap P k w' b (n + 1) (fun x => if x = s.data.toList then some val else f x) → w.grownBy w' (some b) → wpList P ops Q rest (a.put o.dst undef) w') :
    wpList P ops Q (o :: rest) a w := by
  refine wpList_plain hg fun K' hK' => ?_
  obtain ⟨w', hrun, r1, r2⟩ := h.put hk ht hn s hs val
  unfold Oper.wp
  simp [execOp, hop, hm, hx, hv, hrun, Result.andThen]
  exact hK' _ _ (hK w' r1 r2)

/-- 'm[s]' (without 'ok') at the operation. -/
theorem wpList_look_smap {P : Program} {ops : Array Oper} {rest : List Oper} {o : Oper} {a : Act} {Q : Exit → Act → World → Prop} {w : World} (hg : o.guard = none) (m x : Operand) (t : TypeId) (hop : o.op = Op.lookup t m x false)
    (k e : TypeId) (hk : P.underlying k = some .string) (ht : P.underlying t = some (.map k e)) (b n : Nat) (f : List UInt8 → Option Value) (hm : a.eval m = .map (some b)) (h : SMap P k w b n f) {z : Value} (hz : (zeroValue e).run P w = .ok z w)
    (s : ByteArray) (hs : s.size ≤ maxLen) (v : Value) (hx : a.eval x = .string s) (hv : (f s.data.toList).getD z = v) (hK : wpList P ops Q rest (a.put o.dst v) w) :
    wpList P ops Q (o :: rest) a w := by
  refine wpList_plain hg fun K' hK' => ?_
  have hrun := h.look hk ht hz false s hs
  simp only [Bool.false_eq_true, if_false, hv] at hrun
  unfold Oper.wp
  simp [execOp, hop, hm, hx, hrun, Result.andThen]
  exact hK' _ _ hK
/-- 'v, ok := m[s]' at the operation. -/
theorem wpList_look_ok_smap {P : Program} {ops : Array Oper} {rest : List Oper} {o : Oper} {a : Act} {Q : Exit → Act → World → Prop} {w : World} (hg : o.guard = none) (m x : Operand) (t : TypeId) (hop : o.op = Op.lookup t m x true)
    (k e : TypeId) (hk : P.underlying k = some .string) (ht : P.underlying t = some (.map k e)) (b n : Nat) (f : List UInt8 → Option Value) (hm : a.eval m = .map (some b)) (h : SMap P k w b n f) {z : Value} (hz : (zeroValue e).run P w = .ok z w)
    (s : ByteArray) (hs : s.size ≤ maxLen) (v : Value) (y : Bool) (hx : a.eval x = .string s) (hv : (f s.data.toList).getD z = v) (hy : (f s.data.toList).isSome = y) (hK : wpList P ops Q rest (a.put o.dst (.tuple #[v, .bool y])) w) :
    wpList P ops Q (o :: rest) a w := by
  refine wpList_plain hg fun K' hK' => ?_
  have hrun := h.look hk ht hz true s hs
  simp only [if_true, hv, hy] at hrun
  unfold Oper.wp
  simp [execOp, hop, hm, hx, hrun, Result.andThen]
  exact hK' _ _ hK
end Go.Proofs.Ytpdilplgdbcjpaa
