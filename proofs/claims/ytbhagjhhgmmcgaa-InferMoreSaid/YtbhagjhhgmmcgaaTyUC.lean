/- infer: what arguments tell, plainly; maps of the call's own with whole numbers for keys; types whose numbers are numbers. infer.pairs and its iterator. infer.tell. -/
import Derived.Test.YtbhagjhhgmmcgaaTyT
import Derived.Test.YtbhagjhhgmmcgaaTyL
import Derived.Test.YtbhagjhhgmmcgaaTyS
import Derived.Maps.Views
import Derived.Maps.OwnOps
import Derived.Maps.OwnSet
import Derived.RangeFuncNested
import Derived.RangeFuncBox
import Derived.RangeFuncBound
import Derived.RangeFuncCalls
import Derived.RangeFuncLeaves
import Derived.Shelf.Abstract
import Derived.Shelf.RegionOpen
import Derived.OwnWalkIn
import Derived.TacticsInMore
import Derived.LoopNIn
import Derived.LoopIn
import Derived.Maps.OwnIn
import Derived.Scope
import Derived.WalkMore
namespace Go.Proofs.Ytbhagjhhgmmcgaa
open Go.RowKit Go.Maps Go.WideMaps PRef Go.Proofs.YtbhagjhhgmmcgaaW.PrintWords
set_option linter.unusedVariables false

/-- How an element's value reads: as itself. -/
def rdV (v : Value) : Option (DataW Value × List MemPlace) := some (.held v, [])

/-- Block b is a map with keys of the whole numbers' type k, of at most n entries: f tells what stands at a key. -/
def IMap (P : Program) (k : TypeId) (w : World) (b n : Nat) (f : Int → Option Value) : Prop :=
  ∃ D : DataW Value, w.ownsMap P k rdV b n D ∧ ∀ s z, D.atKey (.int .i64 s) z = match f s with | some v => .held v | none => z

section
variable {P : Program} {k : TypeId} {w w' : World} {b n : Nat} {f : Int → Option Value}
theorem IMap.made (w : World) : IMap P k (w.alloc (.map #[] 0)) w.heap.size 0 (fun _ => none) := ⟨_, World.ownsMap_made w P k rdV, fun s z => rfl⟩
theorem IMap.mono (h : IMap P k w b n f) {m : Nat} (hm : n ≤ m) : IMap P k w b m f := by
  obtain ⟨D, h1, h2⟩ := h
  exact ⟨D, h1.mono hm, h2⟩
theorem IMap.lt (h : IMap P k w b n f) : b < w.heap.size := by
  obtain ⟨D, h1, _⟩ := h
  exact h1.lt
theorem IMap.same (h : IMap P k w b n f) (he : w'.heap[b]? = w.heap[b]?) : IMap P k w' b n f := by
  obtain ⟨D, ⟨es, clock, hb, rest⟩, h2⟩ := h
  exact ⟨D, ⟨es, clock, he.trans hb, rest⟩, h2⟩
theorem IMap.later (h : IMap P k w b n f) (hb : Below w.heap.size w w') : IMap P k w' b n f := h.same (hb.block b h.lt)
theorem IMap.not_cells (h : IMap P k w b n f) : ∃ es clock, w.heap[b]? = some (.map es clock) := by
  obtain ⟨D, ⟨es, clock, hb, _⟩, _⟩ := h
  exact ⟨_, _, hb⟩

theorem IMap.look (h : IMap P k w b n f) {t e : TypeId} (hk : P.underlying k = some (.int .i64)) (ht : P.underlying t = some (.map k e)) {z : Value} (hz : (zeroValue e).run P w = .ok z w) (c : Bool) (s : Int) (hs : (Lit.int .i64 s).wf = true) :
    (Instr.lookup t (.map (some b)) (.int .i64 s) c).run P w = .ok (if c then .tuple #[(f s).getD z, .bool (f s).isSome] else (f s).getD z) w := by
  obtain ⟨D, ⟨es, clock, hb, F, _, rfl⟩, h2⟩ := h
  have hkey := keyOf_int_mk hk hs
  have h3 := h2 s
  rcases Maps.fit_look c (int_keyed hk) ht hz hb F hkey with ⟨hrun, _, hat⟩ | ⟨e0, y, _, _, hrun, hRv, hat, _⟩
  · have h4 := (h3 (.held z)).symm.trans (hat (.held z))
    have h5 := (h3 .nil).symm.trans (hat .nil)
    cases hf : f s with
    | none => rw [hrun]; simp
    | some v => rw [hf] at h5; cases h5
  · have h5 := (h3 .nil).symm.trans (hat .nil)
    unfold rdV at hRv
    injection hRv with hRv
    subst hRv
    cases hf : f s with
    | none => rw [hf] at h5; cases h5
    | some v =>
      rw [hf] at h5
      injection h5 with h5
      subst h5
      rw [hrun]; simp

theorem IMap.put (h : IMap P k w b n f) {t e : TypeId} (hk : P.underlying k = some (.int .i64)) (ht : P.underlying t = some (.map k e)) (hn : n < maxLen) (s : Int) (hs : (Lit.int .i64 s).wf = true) (v : Value) :
    ∃ w', (Instr.mapUpdate t (.map (some b)) (.int .i64 s) v).run P w = .ok () w' ∧ IMap P k w' b (n + 1) (fun x => if x = s then some v else f x) ∧ w.grownBy w' (some b) := by
  obtain ⟨D, hown, h2⟩ := h
  obtain ⟨w', hrun, r1, r2⟩ := hown.update (int_keyed hk) ht hn (val := v) (keyOf_int_mk hk hs) (kl := .int .i64 s) (d := .held v) (ps := []) rfl
  refine ⟨w', hrun, ⟨_, r1, fun x z => ?_⟩, r2⟩
  have hD : IsMap D := by
    obtain ⟨es, clock, _, _, _, rfl⟩ := hown
    exact ⟨_, rfl⟩
  by_cases hx : x = s
  · subst hx
    rw [atKey_put_same hD (by simp [WideAt.IsKeyLit])]
    simp only [if_pos]
  · rw [atKey_put_other (by intro e; exact hx (by injection e)), h2]
    simp only [if_neg hx]
end

/-! ### Types whose numbers are numbers -/
inductive TyW : Ty → Prop where
  | mk (t : Ty) (h : t.f4.length * 72 ≤ 140737488355328) (hn : (Lit.int .i64 t.f3).wf = true) (hs : ∀ x ∈ t.f4, TyW x) : TyW t
theorem TyW.ok {t : Ty} (h : TyW t) : TyOk t := by
  induction h with
  | mk t h hn hs ih => exact .mk t h ih
theorem TyW.num {t : Ty} (h : TyW t) : (Lit.int .i64 t.f3).wf = true := by
  cases h with | mk _ _ hn _ => exact hn
theorem TyW.sub {t : Ty} (h : TyW t) : ∀ x ∈ t.f4, TyW x := by
  cases h with | mk _ _ _ hs => exact hs
theorem TyW.len {t : Ty} (h : TyW t) : t.f4.length * 72 ≤ 140737488355328 := by
  cases h with | mk _ h _ _ => exact h

/-! ### How many parts a type has -/
mutual
def szT : Ty → Nat
  | ⟨_, _, _, _, l⟩ => 1 + szL l
def szL : List Ty → Nat
  | [] => 0
  | a :: r => szT a + szL r
end
theorem szT_eq (t : Ty) : szT t = 1 + szL t.f4 := by obtain ⟨_, _, _, _, l⟩ := t; rw [szT]
theorem szT_pos (t : Ty) : 1 ≤ szT t := by rw [szT_eq]; omega
theorem szL_le : ∀ (l : List Ty) (m : Nat), (∀ x ∈ l, szT x ≤ m) → szL l ≤ l.length * m
  | [], _, _ => by simp [szL]
  | a :: r, m, h => by
    rw [szL, List.length_cons, Nat.add_mul]
    have := szL_le r m (fun x hx => h x (List.mem_cons_of_mem _ hx))
    have := h a List.mem_cons_self
    omega
mutual
def partsT : Ty → Int → Int
  | ⟨_, _, _, _, l⟩, n => partsL l (n + 1)
def partsL : List Ty → Int → Int
  | [], n => n
  | a :: r, n => if n ≤ 60 then partsL r (partsT a n) else n
end
theorem partsT_eq (t : Ty) (n : Int) : partsT t n = partsL t.f4 (n + 1) := by obtain ⟨_, _, _, _, l⟩ := t; rw [partsT]
theorem partsL_big : ∀ (l : List Ty) (n : Int), 60 < n → partsL l n = n
  | [], n, _ => rfl
  | a :: r, n, h => by rw [partsL, if_neg (by omega)]
theorem parts_sz : ∀ (t : Ty) (n : Int), partsT t n ≤ 60 → partsT t n = n + szT t := by
  intro t
  induction tyAll t with
  | mk t hs ih =>
    have hl : ∀ (l : List Ty), (∀ x ∈ l, ∀ n, partsT x n ≤ 60 → partsT x n = n + szT x) → ∀ n, partsL l n ≤ 60 → partsL l n = n + szL l := by
      intro l
      induction l with
      | nil => intro _ n _; simp [partsL, szL]
      | cons a r ihr =>
        intro h n hn
        rw [partsL] at hn ⊢
        by_cases h6 : n ≤ 60
        · rw [if_pos h6] at hn ⊢
          have h1 := ihr (fun x hx => h x (List.mem_cons_of_mem _ hx)) _ hn
          have h2 : partsT a n ≤ 60 := by
            rcases Int.lt_or_le 60 (partsT a n) with h3 | h3
            · rw [partsL_big _ _ h3] at hn
              exact hn
            · exact h3
          have h3 := h a List.mem_cons_self n h2
          rw [h1, h3, szL]
          omega
        · rw [if_neg h6] at hn
          exact absurd hn h6
    intro n hn
    rw [partsT_eq] at hn ⊢
    rw [hl t.f4 ih _ hn, szT_eq]
    omega

/-! ### What arguments tell -/
abbrev Told := Int → Option Ty
mutual
def tellT (told : Told) : Ty → Ty → Told
  | ⟨k, p, n, m, l⟩, a =>
    if k = 6 ∧ told m = none ∧ a.f0 ≠ 0 ∧ a.f0 ≠ 7 then (fun x => if x = m then some a else told x)
    else if k = 5 ∧ a.f0 = 5 then tellL told l a.f4 else told
def tellL (told : Told) : List Ty → List Ty → Told
  | [], _ => told
  | _ :: _, [] => told
  | p :: ps, a :: r => tellL (tellT told p a) ps r
end
theorem tellT_eq (told : Told) (p a : Ty) : tellT told p a = if p.f0 = 6 ∧ told p.f3 = none ∧ a.f0 ≠ 0 ∧ a.f0 ≠ 7 then (fun x => if x = p.f3 then some a else told x)
    else if p.f0 = 5 ∧ a.f0 = 5 then tellL told p.f4 a.f4 else told := by
  obtain ⟨k, p, n, m, l⟩ := p
  rw [tellT]
theorem tellL_nil (told : Told) (l : List Ty) : tellL told l [] = told := by cases l <;> rw [tellL]
/-- One pair more. -/
theorem tellL_take : ∀ (told : Told) (l m : List Ty) (k : Nat) (x y : Ty), l[k]? = some x → m[k]? = some y → tellL told (l.take (k + 1)) (m.take (k + 1)) = tellT (tellL told (l.take k) (m.take k)) x y
  | told, p :: ps, a :: r, 0, x, y, hx, hy => by
    simp only [List.getElem?_cons_zero, Option.some.injEq] at hx hy
    subst hx hy
    simp [tellL]
  | told, p :: ps, a :: r, k + 1, x, y, hx, hy => by
    simp only [List.getElem?_cons_succ] at hx hy
    rw [List.take_succ_cons, List.take_succ_cons, tellL, tellL_take _ ps r k x y hx hy, List.take_succ_cons, List.take_succ_cons, tellL]
  | _, [], _, _, _, _, hx, _ => by simp at hx
  | _, _ :: _, [], _, _, _, _, hy => by simp at hy
theorem tellL_min : ∀ (told : Told) (l m : List Ty), tellL told (l.take (min l.length m.length)) (m.take (min l.length m.length)) = tellL told l m
  | told, [], m => by simp [tellL]
  | told, p :: ps, [] => by simp [tellL]
  | told, p :: ps, a :: r => by
    rw [List.length_cons, List.length_cons, Nat.succ_min_succ, List.take_succ_cons, List.take_succ_cons, tellL, tellL, tellL_min]
/-- What has been told stays, and what is told is of a type that tells. -/
theorem tellT_mem (Q : Ty → Prop) (hQ : ∀ t, Q t → ∀ x ∈ t.f4, Q x) (p : Ty) : ∀ (told : Told) (a : Ty), Q a → (∀ i t, told i = some t → Q t ∧ t.f0 ≠ 0) → ∀ i t, tellT told p a i = some t → Q t ∧ t.f0 ≠ 0 := by
  induction tyAll p with
  | mk p hs ih =>
    have hl : ∀ (l : List Ty), (∀ x ∈ l, ∀ (told : Told) (a : Ty), Q a → (∀ i t, told i = some t → Q t ∧ t.f0 ≠ 0) → ∀ i t, tellT told x a i = some t → Q t ∧ t.f0 ≠ 0) → ∀ (m : List Ty) (told : Told), (∀ y ∈ m, Q y) → (∀ i t, told i = some t → Q t ∧ t.f0 ≠ 0) → ∀ i t, tellL told l m i = some t → Q t ∧ t.f0 ≠ 0 := by
      intro l
      induction l with
      | nil => intro _ m told _ h; simpa [tellL] using h
      | cons x r ihr =>
        intro h m told hm ht
        cases m with
        | nil => simpa [tellL] using ht
        | cons a s =>
          rw [tellL]
          exact ihr (fun y hy => h y (List.mem_cons_of_mem _ hy)) s _ (fun y hy => hm y (List.mem_cons_of_mem _ hy)) (h x List.mem_cons_self told a (hm a List.mem_cons_self) ht)
    intro told a ha ht i t
    rw [tellT_eq]
    split
    · rename_i hc
      simp only
      split
      · intro e
        injection e with e
        subst e
        exact ⟨ha, hc.2.2.1⟩
      · exact ht i t
    · split
      · exact hl p.f4 ih a.f4 told (fun y hy => hQ a ha y hy) ht i t
      · exact ht i t
theorem tellL_mem (Q : Ty → Prop) (hQ : ∀ t, Q t → ∀ x ∈ t.f4, Q x) : ∀ (l m : List Ty) (told : Told), (∀ y ∈ m, Q y) → (∀ i t, told i = some t → Q t ∧ t.f0 ≠ 0) → ∀ i t, tellL told l m i = some t → Q t ∧ t.f0 ≠ 0
  | [], m, told, _, h => by simpa [tellL] using h
  | x :: r, [], told, _, h => by simpa [tellL] using h
  | x :: r, a :: s, told, hm, h => by
    rw [tellL]
    exact tellL_mem Q hQ r s _ (fun y hy => hm y (List.mem_cons_of_mem _ hy)) (tellT_mem Q hQ x told a (hm a List.mem_cons_self) h)
-- the document's: a list in which zero stands for what was not told
mutual
def tellD (out : List Ty) : Ty → Ty → List Ty
  | ⟨k, p, n, m, l⟩, a =>
    if k = 6 then (if 0 ≤ m ∧ m < out.length ∧ (rd_T29 out m).f0 = 0 ∧ a.f0 ≠ 0 ∧ a.f0 ≠ 7 then out.set m.toNat a else out)
    else if k = 5 ∧ a.f0 = 5 then tellE out l a.f4 else out
def tellE (out : List Ty) : List Ty → List Ty → List Ty
  | [], _ => out
  | _ :: _, [] => out
  | p :: ps, a :: r => tellE (tellD out p a) ps r
end
theorem tellD_eq (out : List Ty) (p a : Ty) : tellD out p a = if p.f0 = 6 then (if 0 ≤ p.f3 ∧ p.f3 < out.length ∧ (rd_T29 out p.f3).f0 = 0 ∧ a.f0 ≠ 0 ∧ a.f0 ≠ 7 then out.set p.f3.toNat a else out)
    else if p.f0 = 5 ∧ a.f0 = 5 then tellE out p.f4 a.f4 else out := by
  obtain ⟨k, p, n, m, l⟩ := p
  rw [tellD]
theorem tellE_take : ∀ (out : List Ty) (l m : List Ty) (k : Nat) (x y : Ty), l[k]? = some x → m[k]? = some y → tellE out (l.take (k + 1)) (m.take (k + 1)) = tellD (tellE out (l.take k) (m.take k)) x y
  | told, p :: ps, a :: r, 0, x, y, hx, hy => by
    simp only [List.getElem?_cons_zero, Option.some.injEq] at hx hy
    subst hx hy
    simp [tellE]
  | told, p :: ps, a :: r, k + 1, x, y, hx, hy => by
    simp only [List.getElem?_cons_succ] at hx hy
    rw [List.take_succ_cons, List.take_succ_cons, tellE, tellE_take _ ps r k x y hx hy, List.take_succ_cons, List.take_succ_cons, tellE]
  | _, [], _, _, _, _, hx, _ => by simp at hx
  | _, _ :: _, [], _, _, _, _, hy => by simp at hy
theorem tellE_min : ∀ (told : List Ty) (l m : List Ty), tellE told (l.take (min l.length m.length)) (m.take (min l.length m.length)) = tellE told l m
  | told, [], m => by simp [tellE]
  | told, p :: ps, [] => by simp [tellE]
  | told, p :: ps, a :: r => by
    rw [List.length_cons, List.length_cons, Nat.succ_min_succ, List.take_succ_cons, List.take_succ_cons, tellE, tellE, tellE_min]
/-- The two tell the same of the first so many numbers. -/
def Agree (told : Told) (out : List Ty) : Prop := ∀ i : Nat, i < out.length → out[i]? = some ((told (i : Int)).getD zTy)
theorem zTy_kind : zTy.f0 = 0 := rfl
theorem agree_T (p : Ty) : ∀ (told : Told) (out : List Ty) (a : Ty), (∀ i t, told i = some t → t.f0 ≠ 0) → Agree told out → Agree (tellT told p a) (tellD out p a) ∧ (tellD out p a).length = out.length ∧ (∀ i t, tellT told p a i = some t → t.f0 ≠ 0) := by
  induction tyAll p with
  | mk p hs ih =>
    have hl : ∀ (l : List Ty), (∀ x ∈ l, ∀ (told : Told) (out : List Ty) (a : Ty), (∀ i t, told i = some t → t.f0 ≠ 0) → Agree told out → Agree (tellT told x a) (tellD out x a) ∧ (tellD out x a).length = out.length ∧ (∀ i t, tellT told x a i = some t → t.f0 ≠ 0)) →
        ∀ (m : List Ty) (told : Told) (out : List Ty), (∀ i t, told i = some t → t.f0 ≠ 0) → Agree told out → Agree (tellL told l m) (tellE out l m) ∧ (tellE out l m).length = out.length ∧ (∀ i t, tellL told l m i = some t → t.f0 ≠ 0) := by
      intro l
      induction l with
      | nil => intro _ m told out h h1; rw [tellL, tellE]; exact ⟨h1, rfl, h⟩
      | cons x r ihr =>
        intro h m told out ht h1
        cases m with
        | nil => rw [tellL, tellE]; exact ⟨h1, rfl, ht⟩
        | cons a s =>
          rw [tellL, tellE]
          obtain ⟨q1, q2, q3⟩ := h x List.mem_cons_self told out a ht h1
          obtain ⟨r1, r2, r3⟩ := ihr (fun y hy => h y (List.mem_cons_of_mem _ hy)) s _ _ q3 q1
          exact ⟨r1, r2.trans q2, r3⟩
    intro told out a ht h1
    rw [tellT_eq, tellD_eq]
    by_cases h6 : p.f0 = 6
    · rw [if_pos h6]
      have h5 : ¬ (p.f0 = 5 ∧ a.f0 = 5) := by omega
      rw [if_neg h5]
      by_cases hr : 0 ≤ p.f3 ∧ p.f3 < out.length
      · have hg := h1 p.f3.toNat (by omega)
        rw [Int.toNat_of_nonneg hr.1] at hg
        have hrd : rd_T29 out p.f3 = (told p.f3).getD zTy := by
          unfold rd_T29
          rw [List.getD_eq_getElem?_getD, hg]; rfl
        have hk : (rd_T29 out p.f3).f0 = 0 ↔ told p.f3 = none := by
          rw [hrd]
          cases hq : told p.f3 with
          | none => simp [zTy_kind]
          | some t => simp [ht _ _ hq]
        by_cases hc : told p.f3 = none ∧ a.f0 ≠ 0 ∧ a.f0 ≠ 7
        · rw [if_pos ⟨h6, hc⟩, if_pos ⟨hr.1, hr.2, hk.2 hc.1, hc.2⟩]
          refine ⟨fun i hi => ?_, by simp, fun i t => ?_⟩
          · rw [List.length_set] at hi
            by_cases hip : i = p.f3.toNat
            · subst hip
              rw [List.getElem?_set_self (by omega), Int.toNat_of_nonneg hr.1]
              simp
            · rw [List.getElem?_set_ne (fun e => hip e.symm), h1 i hi]
              show _ = some ((if (i : Int) = p.f3 then some a else told i).getD zTy)
              rw [if_neg (by omega)]
          · show (if i = p.f3 then some a else told i) = some t → _
            split
            · intro e; injection e with e; subst e; exact hc.2.1
            · exact ht i t
        · rw [if_neg (fun h => hc h.2), if_neg (fun h => hc ⟨hk.1 h.2.2.1, h.2.2.2⟩)]
          exact ⟨h1, rfl, ht⟩
      · rw [if_neg (fun h : 0 ≤ p.f3 ∧ p.f3 < out.length ∧ _ => hr ⟨h.1, h.2.1⟩)]
        split
        · rename_i hc
          refine ⟨fun i hi => ?_, rfl, fun i t => ?_⟩
          · have : ((i : Int)) ≠ p.f3 := by omega
            show _ = some ((if (i : Int) = p.f3 then some a else told i).getD zTy)
            rw [if_neg this]
            exact h1 i hi
          · show (if i = p.f3 then some a else told i) = some t → _
            split
            · intro e; injection e with e; subst e; exact hc.2.2.1
            · exact ht i t
        · exact ⟨h1, rfl, ht⟩
    · rw [if_neg h6, if_neg (fun h => h6 h.1)]
      split
      · exact hl p.f4 ih a.f4 told out ht h1
      · exact ⟨h1, rfl, ht⟩
theorem agree_L : ∀ (l m : List Ty) (told : Told) (out : List Ty), (∀ i t, told i = some t → t.f0 ≠ 0) → Agree told out → Agree (tellL told l m) (tellE out l m) ∧ (tellE out l m).length = out.length
  | [], m, told, out, h, h1 => by rw [tellL, tellE]; exact ⟨h1, rfl⟩
  | x :: r, [], told, out, h, h1 => by rw [tellL, tellE]; exact ⟨h1, rfl⟩
  | x :: r, a :: s, told, out, h, h1 => by
    rw [tellL, tellE]
    obtain ⟨q1, q2, q3⟩ := agree_T x told out a h h1
    obtain ⟨r1, r2⟩ := agree_L r s _ _ q3 q1
    exact ⟨r1, r2.trans q2⟩
/-- What Unify hands back. -/
def unifyL (ps qs : List Ty) (n : Nat) : List Ty := (List.range n).map fun i : Nat => ((tellL (fun _ => none) ps qs) (i : Int)).getD zTy
theorem unify_doc (ps qs : List Ty) (n : Nat) : tellE (List.replicate n zTy) ps qs = unifyL ps qs n := by
  obtain ⟨h1, h2⟩ := agree_L ps qs (fun _ => none) (List.replicate n zTy) (by simp) (fun i hi => by
    rw [List.getElem?_replicate]; simp at hi ⊢; exact hi)
  rw [List.length_replicate] at h2
  refine List.ext_getElem? fun i => ?_
  unfold unifyL
  rw [List.getElem?_map]
  by_cases hi : i < n
  · rw [h1 i (by omega), List.getElem?_range hi]; rfl
  · rw [List.getElem?_eq_none (by omega), List.getElem?_eq_none (by simp; omega)]; rfl
end Go.Proofs.Ytbhagjhhgmmcgaa
namespace Go.Proofs.Ytbhagjhhgmmcgaa
open Go.RowKit PRef Go.Proofs.YtbhagjhhgmmcgaaW.PrintWords Go.Shelf
set_option linter.unusedVariables false
attribute [local go_sem] Oper.semAt_some

theorem lt_of_heap {A : World} {k : Nat} {o : Obj} (h : A.heap[k]? = some o) : k < A.heap.size := (Array.getElem?_eq_some_iff.1 h).1
theorem grown_of_below {A B : World} (h : Below A.heap.size A B) : A.grownBy B none := ⟨h.os, h.tape, h.output, h.size, fun k hk _ => h.block k hk⟩
theorem abides_below {β : Type} {B : Nat} {J : β → World → Prop} (h : AbidesFrom B J) {s : β} {X Y : World} (hJ : J s X) (hb : Below X.heap.size X Y) : J s Y := h s X Y none hJ (grown_of_below hb) (fun r e => by cases e)

/-- What a round keeps: all that lies below n₀ but blocks of S. -/
def KS (n₀ : Nat) (S : Nat → Prop) (A B : World) : Prop := Keeps A B (fun k => S k ∨ n₀ ≤ k)
theorem KS.trans {n₀ : Nat} {S : Nat → Prop} {A B C : World} (h : KS n₀ S A B) (k : KS n₀ S B C) : KS n₀ S A C := Keeps.same h k
theorem KS.put {n₀ : Nat} {S : Nat → Prop} (W : World) (l : Nat) (o o' : Obj) (hl : n₀ ≤ l) (h : W.heap[l]? = some o) (_ : o.isCells = false) (_ : o.isWalk = false) : KS n₀ S W (W.putObj l o') :=
  Keeps.grown (Keeps.refl W _) (grownBy_putObj' W l o') (fun k e => by injection e with e; subst e; exact .inl (.inr hl))
/-- What a round keeps: all that lies below n₀ but block b. -/
def Kb (n₀ b : Nat) (A B : World) : Prop := Keeps A B (fun k => k = b ∨ n₀ ≤ k)
theorem Kb.trans {n₀ b : Nat} {A B C : World} (h : Kb n₀ b A B) (k : Kb n₀ b B C) : Kb n₀ b A C := Keeps.same h k
theorem Kb.put {n₀ b : Nat} (W : World) (l : Nat) (o o' : Obj) (hl : n₀ ≤ l) (h : W.heap[l]? = some o) (_ : o.isCells = false) (_ : o.isWalk = false) : Kb n₀ b W (W.putObj l o') :=
  Keeps.grown (Keeps.refl W _) (grownBy_putObj' W l o') (fun k e => by injection e with e; subst e; exact .inl (.inr hl))

/-- The so-manieth of a row of types, as it is read. -/
def Elem (w0 : World) (A : Option Addr) (l : List Ty) (i : Nat) (v : Value) : Prop :=
  ∃ x A4 c4, l[i]? = some x ∧ v = tyV x A4 c4 ∧ x.f4.length ≤ c4 ∧ Kd.C kTy w0 A4 x.f4.length x.f4 ∧ ∃ ad, A = some ad ∧ w0.cell? (ad.add (i * 5)) = some (.int .i64 x.f0) ∧ w0.cell? ⟨(ad.add (i * 5)).block, (ad.add (i * 5)).off + 1, none⟩ = some (.string x.f1) ∧ w0.cell? ⟨(ad.add (i * 5)).block, (ad.add (i * 5)).off + 2, none⟩ = some (.string x.f2) ∧
    w0.cell? ⟨(ad.add (i * 5)).block, (ad.add (i * 5)).off + 3, none⟩ = some (.int .i64 x.f3) ∧ w0.cell? ⟨(ad.add (i * 5)).block, (ad.add (i * 5)).off + 4, none⟩ = some (.slice A4 x.f4.length c4)
theorem elems {w0 : World} {A : Option Addr} {l : List Ty} (h : Kd.C kTy w0 A l.length l) : ∃ va : Nat → Value, ∀ i, i < l.length → Elem w0 A l i (va i) := by
  have hall : ∀ i : Nat, ∃ v, i < l.length → Elem w0 A l i v := by
    intro i
    by_cases hi : i < l.length
    · obtain ⟨ad, A4, c4, hA, x0, x1, x2, x3, x4, lx, gx⟩ := at_T29 h (i : Int) (by omega) (by omega)
      have hy : l[i]? = some l[i] := List.getElem?_eq_getElem hi
      rw [show rd_T29 l (i : Int) = l[i] from by unfold rd_T29; rw [Int.toNat_natCast, List.getD_eq_getElem?_getD, hy]; rfl] at x0 x1 x2 x3 x4 lx gx
      rw [Int.toNat_natCast] at x0 x1 x2 x3 x4
      exact ⟨tyV l[i] A4 c4, fun _ => ⟨l[i], A4, c4, hy, rfl, lx, gx, ad, hA, x0, x1, x2, x3, x4⟩⟩
    · exact ⟨undef, fun h => absurd h hi⟩
  exact Classical.axiomOfChoice hall

theorem range_snoc (k : Nat) : List.range (k + 1) = List.range k ++ [k] := List.range_succ

set_option maxRecDepth 100000 in
set_option maxHeartbeats 4000000 in
theorem pairs_stopsS (n : Nat) (hn : 1 ≤ n) (S : Nat → Prop) (A B : Option Addr) (l m : List Ty) (c d : Nat) (va vb : Nat → Value) (w0 w : World) (hl : l.length ≤ 9223372036854775807) (hm : m.length ≤ 9223372036854775807)
    (hA : ∀ i, i < l.length → Elem w0 A l i (va i)) (hB : ∀ i, i < m.length → Elem w0 B m i (vb i)) (bp bq : Nat) (hp : w.heap[bp]? = some (.cells #[.slice A l.length c] 24 (0, 0))) (hq : w.heap[bq]? = some (.cells #[.slice B m.length d] 24 (0, 0)))
    (hbw : Below w0.heap.size w0 w) (hb0 : ∀ k, S k → w0.heap.size ≤ k) (h1 : ¬ S bp) (h2 : ¬ S bq) :
    SeqStopsK Fence.wide n Try.prog 80 #[.pointer (some ⟨bp, 0, none⟩), .pointer (some ⟨bq, 0, none⟩)] (fun i : Nat => #[va i, vb i]) (KS w.heap.size S) (fun xs => xs = List.range (min l.length m.length)) (fun _ => True) (min l.length m.length) w := fun y J Jx W hW hJ hJx hY h0 => by
  have hpW := (hW.block bp (blk_lt hp)).trans hp
  have hqW := (hW.block bq (blk_lt hq)).trans hq
  have hbW := hbw.trans (hW.mono hbw.size)
  have hY2 : ∀ k W1, J (List.range k) W1 → k < min l.length m.length → YieldAt Fence.wide (n - 1) Try.prog y #[va k, vb k] W1 fun e W' => ∃ r : Bool, e = .returned (.bool r) ∧ Hid ((r = true ∧ J (List.range (k + 1)) W' ∧ KS w.heap.size S W1 W') ∨ (r = false ∧ Jx (List.range k ++ [k]) W')) := by
    intro k W1 hj hk
    refine (hY (List.range k) k W1 hj (by rw [List.length_range]; exact hk)).mono ?_
    rintro e W' (⟨rfl, q1, q2⟩ | ⟨rfl, q1⟩)
    · exact ⟨true, rfl, Lib.hid (.inl ⟨rfl, by rw [range_snoc]; exact q1, q2⟩)⟩
    · exact ⟨false, rfl, Lib.hid (.inr ⟨rfl, q1⟩)⟩
  have hbps := blk_lt hp
  have hbqs := blk_lt hq
  have HY := Lib.hid hY2
  have HJ := Lib.hid h0
  have HP := Lib.hid hpW
  have HQ := Lib.hid hqW
  have HBW := Lib.hid hbW
  have HEA := Lib.hid hA
  have HEB := Lib.hid hB
  have p0 := (blk_cell hpW 0).trans rfl
  have q0 := (blk_cell hqW 0).trans rfl
  have hsz := hW.size
  clear hpW hqW hbW hY hY2 h0 hA hB hW hp hq
  refine callsIn_of_wp Try.func80 rfl trivial ?_ rfl
  simp only [Try.ntmps80, List.size_toArray, List.length_cons, List.length_nil, Nat.reduceAdd, Nat.reduceSub, Array.replicate_succ, Array.replicate_zero, List.push_toArray, List.append_toArray, List.nil_append, List.cons_append]
  gi_wp2
  all_goals
    gi_loopw [10] (fun iv wr => ∃ k : Nat, iv = .int .i64 (k : Int) ∧ Hid (k ≤ min l.length m.length) ∧ Hid (J (List.range k) wr) ∧ Hid (wr.heap[bp]? = some (.cells #[.slice A l.length c] 24 (0, 0))) ∧ Hid (wr.heap[bq]? = some (.cells #[.slice B m.length d] 24 (0, 0))) ∧ Hid (Below w0.heap.size w0 wr)) (fun iv _ => l.length - (intOf iv).toNat)
    case atStart => exact ⟨0, rfl, Lib.hid (Nat.zero_le _), HJ, HP, HQ, HBW⟩
    case round =>
      obtain ⟨k, rfl, HK, HJ', HP', HQ', HB'⟩ := hrel
      clear HJ HP HQ HBW p0 q0
      have p0 := (blk_cell HP'.out 0).trans rfl
      have q0 := (blk_cell HQ'.out 0).trans rfl
      by_cases hlt : k < min l.length m.length
      · have kl : (k : Int) < l.length := by omega
        have km : (k : Int) < m.length := by omega
        have k0 : 0 ≤ (k : Int) := by omega
        obtain ⟨x, A4, c4, hx, hva, lx, gx, ad, hAd, x0, x1, x2, x3, x4⟩ := HEA.out k (by omega)
        obtain ⟨z, B4, d4, hz, hvb, lz, gz, bd, hBd, z0, z1, z2, z3, z4⟩ := HEB.out k (by omega)
        subst hAd hBd
        have HBD := Lib.hid (bel_drew HB'.out)
        replace x0 := cell_later HBD.out x0
        replace x1 := cell_later HBD.out x1
        replace x2 := cell_later HBD.out x2
        replace x3 := cell_later HBD.out x3
        replace x4 := cell_later HBD.out x4
        replace z0 := cell_later HBD.out z0
        replace z1 := cell_later HBD.out z1
        replace z2 := cell_later HBD.out z2
        replace z3 := cell_later HBD.out z3
        replace z4 := cell_later HBD.out z4
        have HR := Lib.hid (HY.out k wr.drew (abides_below hJ HJ'.out (bel_drew (Below.refl _ _))) hlt)
        rw [hva, hvb] at HR
        simp only [tyV] at HR
        obtain ⟨fn, tmps, assign, body, hy, hR⟩ := HR.out
        have HRR := Lib.hid hR
        clear HR hR hva hvb lx gx lz gz hx hz
        have hlm : l.length ≤ 9223372036854775807 := hl
        gi_wp2
        have hmx : Try.prog.follows .mixedOrders = true := by kernel_rfl
        gi_region_with_o (refine HRR.out.mono ?_; rintro e W' ⟨bv, rfl, hbv⟩)
        all_goals
          have HLT := Lib.hid hlt
          clear x0 x1 x2 x3 x4 z0 z1 z2 z3 z4 HRR hy p0 q0 HEA HEB HY
          rcases hbv.out with ⟨rfl, hj, hk⟩ | ⟨rfl, hj⟩
          · have hp2 := Keeps.blk hk HP'.out (fun h => by rcases h with h | h; exact h1 h; omega)
            have hq2 := Keeps.blk hk HQ'.out (fun h => by rcases h with h | h; exact h2 h; omega)
            have hb2 := HBD.out.trans (Keeps.below (B := w0.heap.size) hk HBD.out.size (by have := hbw.size; intro j hj; rcases hj with hj | hj; exact hb0 j hj; omega))
            have HP2 := Lib.hid hp2
            have HQ2 := Lib.hid hq2
            have HB2 := Lib.hid hb2
            have HJ2 := Lib.hid hj
            have hkb : k + 1 ≤ 9223372036854775807 := by omega
            clear hp2 hq2 hb2 hj hk hbv
            gi_wp2
            go_roundw
            case rel => exact ⟨k + 1, by go_num, Lib.hid HLT.out, HJ2, HP2, HQ2, HB2⟩
            case measure => have := HLT.out; simp [intOf]; omega
          · have HJ2 := Lib.hid hj
            clear hj hbv
            gi_wp2
            refine bodyPost_ret (results_none rfl _ _ _) rfl ?_
            exact ⟨⟨_, rfl⟩, .inr ⟨_, trivial, HJ2.out⟩⟩
      · have HKE := HK.out
        first
        | (have e1 : ¬ ((k : Int) < (m.length : Int)) := by omega
           obtain rfl : k = min l.length m.length := by omega
           gi_wp2
           all_goals first | exact HJ'.out | (go_end0; first | exact HJ'.out | exact ⟨⟨_, rfl⟩, .inl HJ'.out⟩ | exact ⟨⟨_, rfl⟩, .inl ⟨_, rfl, HJ'.out⟩⟩))
        | (have e1 : ¬ ((k : Int) < (l.length : Int)) := by omega
           obtain rfl : k = min l.length m.length := by omega
           gi_wp2
           all_goals first | exact HJ'.out | (go_end0; first | exact HJ'.out | exact ⟨⟨_, rfl⟩, .inl HJ'.out⟩ | exact ⟨⟨_, rfl⟩, .inl ⟨_, rfl, HJ'.out⟩⟩))
theorem pairs_stops (n : Nat) (hn : 1 ≤ n) (b : Nat) (A B : Option Addr) (l m : List Ty) (c d : Nat) (va vb : Nat → Value) (w0 w : World) (hl : l.length ≤ 9223372036854775807) (hm : m.length ≤ 9223372036854775807)
    (hA : ∀ i, i < l.length → Elem w0 A l i (va i)) (hB : ∀ i, i < m.length → Elem w0 B m i (vb i)) (bp bq : Nat) (hp : w.heap[bp]? = some (.cells #[.slice A l.length c] 24 (0, 0))) (hq : w.heap[bq]? = some (.cells #[.slice B m.length d] 24 (0, 0)))
    (hbw : Below w0.heap.size w0 w) (hb0 : w0.heap.size ≤ b) (h1 : bp ≠ b) (h2 : bq ≠ b) :
    SeqStopsK Fence.wide n Try.prog 80 #[.pointer (some ⟨bp, 0, none⟩), .pointer (some ⟨bq, 0, none⟩)] (fun i : Nat => #[va i, vb i]) (Kb w.heap.size b) (fun xs => xs = List.range (min l.length m.length)) (fun _ => True) (min l.length m.length) w :=
  pairs_stopsS n hn (fun k => k = b) A B l m c d va vb w0 w hl hm hA hB bp bq hp hq hbw (fun k e => by subst e; exact hb0) h1 h2
end Go.Proofs.Ytbhagjhhgmmcgaa
namespace Go.Proofs.Ytbhagjhhgmmcgaa
open Go.RowKit PRef Go.Proofs.YtbhagjhhgmmcgaaW.PrintWords Go.Shelf
set_option linter.unusedVariables false
attribute [local go_sem] Oper.semAt_some

/-! ### How many numbers a type may tell at the most -/
mutual
def gT : Ty → Nat
  | ⟨_, _, _, _, l⟩ => max 1 (l.length * mL l)
def mL : List Ty → Nat
  | [] => 1
  | a :: r => max (gT a) (mL r)
end
theorem gT_eq (t : Ty) : gT t = max 1 (t.f4.length * mL t.f4) := by obtain ⟨_, _, _, _, l⟩ := t; rw [gT]
theorem mL_mem : ∀ {l : List Ty} {x : Ty}, x ∈ l → gT x ≤ mL l
  | a :: r, x, h => by
    rw [mL]
    rcases List.mem_cons.1 h with rfl | h
    · exact Nat.le_max_left _ _
    · exact Nat.le_trans (mL_mem h) (Nat.le_max_right _ _)
theorem mL_pos : ∀ (l : List Ty), 1 ≤ mL l
  | [] => Nat.le_refl _
  | a :: r => by rw [mL]; exact Nat.le_trans (mL_pos r) (Nat.le_max_right _ _)
theorem mL_rd (l : List Ty) (i : Nat) : gT (l.getD i zTy) ≤ mL l := by
  rw [List.getD_eq_getElem?_getD]
  cases h : l[i]? with
  | some x => exact mL_mem (List.mem_of_getElem? h)
  | none => exact mL_pos l
theorem mL_pow : ∀ (l : List Ty) (B : Nat), 1 ≤ B → (∀ x ∈ l, gT x ≤ B) → mL l ≤ B
  | [], B, h, _ => h
  | a :: r, B, h, h1 => by
    rw [mL]
    exact Nat.max_le.2 ⟨h1 a List.mem_cons_self, mL_pow r B h (fun x hx => h1 x (List.mem_cons_of_mem _ hx))⟩
theorem szL_mem : ∀ {l : List Ty} {x : Ty}, x ∈ l → szT x + (l.length - 1) ≤ szL l
  | a :: r, x, h => by
    have hlen : ∀ r : List Ty, r.length ≤ szL r := by
      intro r
      induction r with
      | nil => simp
      | cons a r ih => rw [szL, List.length_cons]; have := szT_pos a; omega
    rw [szL, List.length_cons]
    rcases List.mem_cons.1 h with rfl | h
    · have := hlen r; omega
    · have := szL_mem h
      have := szT_pos a
      have : 1 ≤ r.length := List.length_pos_of_mem h
      omega
theorem len_pow : ∀ n : Nat, 1 ≤ n → n ≤ 2 ^ (n - 1)
  | 0, h => by omega
  | 1, _ => by decide
  | n + 2, _ => by
    have := len_pow (n + 1) (by omega)
    simp only [Nat.add_sub_cancel] at this ⊢
    rw [show n + 2 - 1 = n + 1 by omega, Nat.pow_succ]
    omega
theorem gT_pow (t : Ty) : gT t ≤ 2 ^ (szT t - 2) := by
  induction tyAll t with
  | mk t hs ih =>
    rw [gT_eq, szT_eq]
    refine Nat.max_le.2 ⟨Nat.one_le_two_pow, ?_⟩
    cases hl : t.f4 with
    | nil => simp
    | cons a r =>
      rw [← hl]
      have hpos : 1 ≤ t.f4.length := by rw [hl]; simp
      have hsl : t.f4.length ≤ szL t.f4 := by have := szL_mem (l := t.f4) (x := a) (by rw [hl]; simp); have := szT_pos a; omega
      have hB : mL t.f4 ≤ 2 ^ (szL t.f4 - t.f4.length) := by
        refine mL_pow _ _ (Nat.one_le_two_pow) (fun x hx => Nat.le_trans (ih x hx) (Nat.pow_le_pow_right (by omega) ?_))
        have := szL_mem hx
        have := szT_pos x
        omega
      have h1 := Nat.mul_le_mul (len_pow _ hpos) hB
      rw [← Nat.pow_add, show t.f4.length - 1 + (szL t.f4 - t.f4.length) = szL t.f4 - 1 by omega] at h1
      rw [show 1 + szL t.f4 - 2 = szL t.f4 - 1 by omega]
      exact h1
theorem grow_small (l : List Ty) (h : l.length ≤ 20) (hs : ∀ x ∈ l, szT x ≤ 60) : l.length * mL l ≤ 9000000000000000000 := by
  have hB : mL l ≤ 2 ^ 58 := mL_pow _ _ (Nat.one_le_two_pow) (fun x hx => Nat.le_trans (gT_pow x) (Nat.pow_le_pow_right (by omega) (by have := hs x hx; omega)))
  have := Nat.mul_le_mul h hB
  omega

/-! ### What the map holds -/
def TV (w0 : World) : Option Ty → Option Value → Prop
  | none, none => True
  | some t, some v => ∃ A c, v = tyV t A c ∧ t.f4.length ≤ c ∧ Kd.C kTy w0 A t.f4.length t.f4
  | _, _ => False
def ToldC (w0 W : World) (b n : Nat) (told : Told) : Prop := ∃ f, IMap Try.prog 3 W b n f ∧ ∀ i, TV w0 (told i) (f i)
theorem ToldC.made (w0 w : World) : ToldC w0 (w.alloc (.map #[] 0)) w.heap.size 0 (fun _ => none) := ⟨_, IMap.made w, fun _ => trivial⟩
theorem ToldC.mono {w0 W : World} {b n m : Nat} {told : Told} (h : ToldC w0 W b n told) (hm : n ≤ m) : ToldC w0 W b m told := by
  obtain ⟨f, h1, h2⟩ := h
  exact ⟨f, h1.mono hm, h2⟩
theorem ToldC.same {w0 W W' : World} {b n : Nat} {told : Told} (h : ToldC w0 W b n told) (he : W'.heap[b]? = W.heap[b]?) : ToldC w0 W' b n told := by
  obtain ⟨f, h1, h2⟩ := h
  exact ⟨f, h1.same he, h2⟩
theorem ToldC.lt {w0 W : World} {b n : Nat} {told : Told} (h : ToldC w0 W b n told) : b < W.heap.size := by
  obtain ⟨f, h1, _⟩ := h
  exact h1.lt
theorem ToldC.not_cells {w0 W : World} {b n : Nat} {told : Told} (h : ToldC w0 W b n told) : ∃ o : Obj, W.heap[b]? = some o ∧ o.isWalk = true ∧ o.isCells = false := by
  obtain ⟨f, h1, _⟩ := h
  obtain ⟨es, clock, hb⟩ := h1.not_cells
  exact ⟨_, hb, rfl, rfl⟩
theorem ToldC.put {w0 W : World} {b n : Nat} {told : Told} (h : ToldC w0 W b n told) (hn : n < maxLen) (i : Int) (hi : (Lit.int .i64 i).wf = true) (t : Ty) (A : Option Addr) (c : Nat) (hc : t.f4.length ≤ c) (hA : Kd.C kTy w0 A t.f4.length t.f4) :
    ∃ w', (Instr.mapUpdate 96 (.map (some b)) (.int .i64 i) (tyV t A c)).run Try.prog W = .ok () w' ∧ ToldC w0 w' b (n + 1) (fun x => if x = i then some t else told x) ∧ Keeps W w' (fun k => k = b) := by
  obtain ⟨f, h1, h2⟩ := h
  obtain ⟨w', hrun, r1, r2⟩ := h1.put Try.underlying3 Try.underlying96 hn i hi (tyV t A c)
  refine ⟨w', hrun, ⟨_, r1, fun x => ?_⟩, Keeps.grown (Keeps.refl W _) r2 (fun k e => by injection e with e; exact .inl e.symm)⟩
  show TV w0 (if x = i then some t else told x) (if x = i then some (tyV t A c) else f x)
  by_cases hx : x = i
  · rw [if_pos hx, if_pos hx]; exact ⟨A, c, rfl, hc, hA⟩
  · rw [if_neg hx, if_neg hx]; exact h2 x
theorem zero_ty (W : World) : (zeroValue 29).run Try.prog W = .ok (tyV zTy none 0) W := Try.zeroValue29 W
theorem ToldC.look {w0 W : World} {b n : Nat} {told : Told} (h : ToldC w0 W b n told) (i : Int) (hi : (Lit.int .i64 i).wf = true) (hz : (zeroValue 29).run Try.prog W = .ok (tyV zTy none 0) W) :
    ∃ A c, (∀ e : Bool, (Instr.lookup 96 (.map (some b)) (.int .i64 i) e).run Try.prog W = .ok (if e then .tuple #[tyV ((told i).getD zTy) A c, .bool (told i).isSome] else tyV ((told i).getD zTy) A c) W) ∧ ((told i).getD zTy).f4.length ≤ c ∧ Kd.C kTy w0 A ((told i).getD zTy).f4.length ((told i).getD zTy).f4 := by
  obtain ⟨f, h1, h2⟩ := h
  have h3 := h2 i
  cases ht : told i with
  | none =>
    cases hf : f i with
    | none =>
      refine ⟨none, 0, fun e => ?_, Nat.zero_le _, ⟨rfl, by simp [zTy, z29], fun h => by simp [zTy, z29] at h⟩⟩
      have := h1.look Try.underlying3 Try.underlying96 hz e i hi
      rw [hf] at this
      exact this
    | some v => rw [ht, hf] at h3; exact h3.elim
  | some t =>
    cases hf : f i with
    | none => rw [ht, hf] at h3; exact h3.elim
    | some v =>
      rw [ht, hf] at h3
      obtain ⟨A, c, rfl, h4, h5⟩ := h3
      refine ⟨A, c, fun e => ?_, h4, h5⟩
      have := h1.look Try.underlying3 Try.underlying96 hz e i hi
      rw [hf] at this
      exact this

/-- What a list of places tells. -/
def foldP (l m : List Ty) (told : Told) (pre : List Nat) : Told := pre.foldl (fun T i => tellT T (l.getD i zTy) (m.getD i zTy)) told
theorem foldP_snoc (l m : List Ty) (told : Told) (pre : List Nat) (i : Nat) : foldP l m told (pre ++ [i]) = tellT (foldP l m told pre) (l.getD i zTy) (m.getD i zTy) := by
  unfold foldP; rw [List.foldl_append]; rfl
theorem foldP_range (l m : List Ty) (told : Told) : ∀ k, k ≤ min l.length m.length → foldP l m told (List.range k) = tellL told (l.take k) (m.take k)
  | 0, _ => by simp [foldP, tellL]
  | k + 1, h => by
    have h1 : l[k]? = some l[k] := List.getElem?_eq_getElem (by omega)
    have h2 : m[k]? = some m[k] := List.getElem?_eq_getElem (by omega)
    rw [range_snoc, foldP_snoc, foldP_range l m told k (by omega), tellL_take told l m k _ _ h1 h2, List.getD_eq_getElem?_getD, List.getD_eq_getElem?_getD, h1, h2]; rfl
theorem foldP_all (l m : List Ty) (told : Told) : foldP l m told (List.range (min l.length m.length)) = tellL told l m := by
  rw [foldP_range l m told _ (Nat.le_refl _), tellL_min]

/-- infer.pairs: both lists are boxed. -/
theorem pairs_in (n : Nat) (A B : Option Addr) (l m : List Ty) (c d : Nat) (w : World) :
    CallsIn Fence.wide n Try.prog 69 #[.slice A l.length c, .slice B m.length d] w fun e w' => e = .returned (.func (.func 80) #[] #[.pointer (some ⟨w.heap.size, 0, none⟩), .pointer (some ⟨w.heap.size + 1, 0, none⟩)]) ∧ w' = (w.alloc (.cells #[.slice A l.length c] 24)).alloc (.cells #[.slice B m.length d] 24) := by
  refine callsIn_of_wp Try.func69 rfl trivial ?_ rfl
  simp only [Try.ntmps69, List.size_toArray, List.length_cons, List.length_nil, Nat.reduceAdd, Nat.reduceSub, Array.replicate_succ, Array.replicate_zero, List.push_toArray, List.append_toArray, List.nil_append, List.cons_append]
  gi_wp2
  go_ret
  exact ⟨by simp, rfl⟩
end Go.Proofs.Ytbhagjhhgmmcgaa
