/- Plain laws of what is the same and what is alike; the document's Same and Alike are these. -/
import Derived.Test.YtbhagjhhgmmcgaaTyI
import Derived.Test.YtbhagjhhgmmcgaaPRefx2
import Derived.Test.YtbhagjhhgmmcgaaPRefx3
namespace Go.Proofs.Ytbhagjhhgmmcgaa
open Go.RowKit PRef Go.Proofs.YtbhagjhhgmmcgaaW.PrintWords
set_option linter.unusedVariables false
set_option linter.unusedSimpArgs false

theorem ev_if {α : Type} {c : Prop} [Decidable c] {f g : Nat → Option α} {r : α} (h1 : c → Ev f r) (h2 : ¬ c → Ev g r) : Ev (fun k => if c then f k else g k) r := by
  by_cases h : c
  · simp only [if_pos h]; exact h1 h
  · simp only [if_neg h]; exact h2 h
theorem ev_bind {α β : Type} {g : Nat → Option α} {f : Nat → α → Option β} {a : α} {r : β} (h : Ev g a) (k : Ev (fun n => f n a) r) : Ev (fun n => (g n).bind (f n)) r := Ev.bind h k
theorem ev_eq {α : Type} {g : Nat → Option α} {r s : α} (h : Ev g r) (e : r = s) : Ev g s := e ▸ h
theorem ba_inj {x y : ByteArray} (h : x.toList = y.toList) : x = y := Classical.byContradiction fun hn => ba_neP hn h

/-- A loop over two lists side by side. -/
theorem ev_loop (L : Nat → Int → Option Bool) (q : Ty → Ty → Bool) (f : Nat → Ty → Ty → Option Bool) (l m : List Ty) (hlen : l.length = m.length) (hmax : l.length ≤ 9223372036854775807)
    (hf : ∀ x ∈ l, ∀ y, Ev (fun k => f k x y) (q x y))
    (hL : ∀ k i, L (k + 1) i = if i < (l.length : Int) then (if 0 ≤ i then (if i < (m.length : Int) then ((f k (rd_T29 l i) (rd_T29 m i)).bind fun t => (if t = true then L k (wrap64 (i + 1)) else some false)) else none) else none) else some true) :
    ∀ (d i : Nat), i + d = l.length → Ev (fun k => L k i) (allL q (l.drop i) (m.drop i)) := by
  intro d
  induction d with
  | zero =>
    intro i hi
    refine Ev.step (f := fun _ => some true) (fun k => ?_) (ev_eq (Ev.now true) ?_)
    · show L (k + 1) (i : Int) = _
      rw [hL, if_neg (by omega)]
    · rw [List.drop_of_length_le (by omega), List.drop_of_length_le (by omega)]; rfl
  | succ d ih =>
    intro i hi
    have h1 : i < l.length := by omega
    have h2 : i < m.length := by omega
    have e1 : rd_T29 l (i : Int) = l[i] := by unfold rd_T29; rw [Int.toNat_natCast, List.getD_eq_getElem?_getD, List.getElem?_eq_getElem h1]; rfl
    have e2 : rd_T29 m (i : Int) = m[i] := by unfold rd_T29; rw [Int.toNat_natCast, List.getD_eq_getElem?_getD, List.getElem?_eq_getElem h2]; rfl
    have hw : wrap64 ((i : Int) + 1) = ((i + 1 : Nat) : Int) := by unfold wrap64; omega
    refine Ev.step (f := fun k => (f k l[i] m[i]).bind fun t => if t = true then L k ((i + 1 : Nat) : Int) else some false) (fun k => ?_) ?_
    · show L (k + 1) (i : Int) = _
      rw [hL, if_pos (by omega), if_pos (by omega), if_pos (by omega), e1, e2, hw]
    · refine ev_bind (hf _ (List.getElem_mem h1) _) ?_
      rw [allL_drop q l m hlen i l[i] m[i] (List.getElem?_eq_getElem h1) (List.getElem?_eq_getElem h2)]
      cases hq : q l[i] m[i] with
      | true => exact ev_if (fun _ => ev_eq (ih (i + 1) (by omega)) (by simp)) (fun h => absurd rfl h)
      | false => exact ev_if (fun h => by cases h) (fun _ => ev_eq (Ev.now false) (by simp))

theorem same_ev {a : Ty} (ha : TyOk a) : ∀ b : Ty, Ev (fun k => quoinref09_Same.f k a.f0 a.f1 a.f2 a.f3 a.f4 b.f0 b.f1 b.f2 b.f3 b.f4) (sameT a b) := by
  induction ha with
  | mk t hl hs ih =>
    intro b
    obtain ⟨k, p, n, m, l⟩ := t
    obtain ⟨k', p', n', m', l'⟩ := b
    dsimp only at hl hs ih ⊢
    by_cases hk : k = k'
    · subst hk
      have E5 : Ev (fun q => quoinref09_Same.j5 q true k p n m l k p' n' m' l') (sameL l l') := by
        refine Ev.step (fun q => by rw [quoinref09_Same.j5]) (ev_if (fun _ => ev_if (fun h => ?_) (fun h => ?_)) (fun h => absurd rfl h))
        · have h' : l.length = l'.length := by omega
          have := ev_loop (fun q i => quoinref09_Same.l0 q i k p n m l k p' n' m' l') sameT (fun q x y => quoinref09_Same.f q x.f0 x.f1 x.f2 x.f3 x.f4 y.f0 y.f1 y.f2 y.f3 y.f4) l l' h' (by omega) ih (fun q i => by rw [quoinref09_Same.l0]) l.length 0 (by omega)
          rw [sameL_all]
          exact this
        · rw [sameL_all, allL_len _ _ _ (by omega)]
          exact Ev.now false
      have E5f : Ev (fun q => quoinref09_Same.j5 q false k p n m l k p' n' m' l') true := Ev.step (fun q => by rw [quoinref09_Same.j5]) (ev_if (fun h => by cases h) (fun _ => Ev.now true))
      have E0 : ∀ K : Bool, K = decide (0 ≤ k ∧ k ≤ 7) → Ev (fun q => quoinref09_Same.j0 q K k p n m l k p' n' m' l') (sameT ⟨k, p, n, m, l⟩ ⟨k, p', n', m', l'⟩) := by
        intro K hK
        have E4 : Ev (fun q => quoinref09_Same.j4 q K k p n m l k p' n' m' l') (if k = 5 ∨ K = false then sameL l l' else true) := by
          refine Ev.step (fun q => by rw [quoinref09_Same.j4]) (ev_if (fun h => ?_) (fun h => ?_))
          · rw [if_pos (.inl h)]; exact E5
          · cases K with
            | true => rw [if_neg (by simp [h])]; exact E5f
            | false => rw [if_pos (.inr rfl)]; exact E5
        have E3 : ∀ x : Bool, Ev (fun q => quoinref09_Same.j3 q K x k p n m l k p' n' m' l') (if x = true then decide (m = m') && (if k = 5 ∨ K = false then sameL l l' else true) else (if k = 5 ∨ K = false then sameL l l' else true)) := by
          intro x
          refine Ev.step (fun q => by rw [quoinref09_Same.j3]) (ev_if (fun h => ?_) (fun h => ?_))
          · rw [if_pos h]
            refine ev_if (fun h => ?_) (fun h => ?_)
            · rw [decide_eq_true h, Bool.true_and]; exact E4
            · rw [decide_eq_false h, Bool.false_and]; exact Ev.now false
          · rw [if_neg h]; exact E4
        have E2 : Ev (fun q => quoinref09_Same.j2 q K k p n m l k p' n' m' l') (if k = 6 ∨ K = false then decide (m = m') && (if k = 5 ∨ K = false then sameL l l' else true) else (if k = 5 ∨ K = false then sameL l l' else true)) := by
          refine Ev.step (fun q => by rw [quoinref09_Same.j2]) (ev_if (fun h => ?_) (fun h => ?_))
          · rw [if_pos (.inl h)]; exact E3 true
          · cases K with
            | true => rw [if_neg (by simp [h])]; exact E3 false
            | false => rw [if_pos (.inr rfl)]; exact E3 true
        have E1 : ∀ x : Bool, Ev (fun q => quoinref09_Same.j1 q K x k p n m l k p' n' m' l') (if x = true then decide (p = p' ∧ n = n') && (if k = 6 ∨ K = false then decide (m = m') && (if k = 5 ∨ K = false then sameL l l' else true) else (if k = 5 ∨ K = false then sameL l l' else true)) else (if k = 6 ∨ K = false then decide (m = m') && (if k = 5 ∨ K = false then sameL l l' else true) else (if k = 5 ∨ K = false then sameL l l' else true))) := by
          intro x
          refine Ev.step (fun q => by rw [quoinref09_Same.j1]) (ev_if (fun h => ?_) (fun h => ?_))
          · rw [if_pos h]
            refine ev_if (fun h1 => ev_if (fun h2 => ?_) (fun h2 => ?_)) (fun h1 => ?_)
            · rw [decide_eq_true ⟨ba_inj h1, ba_inj h2⟩, Bool.true_and]; exact E2
            · rw [decide_eq_false (fun e => h2 (by rw [e.2])), Bool.false_and]; exact Ev.now false
            · rw [decide_eq_false (fun e => h1 (by rw [e.1])), Bool.false_and]; exact Ev.now false
          · rw [if_neg h]; exact E2
        have E0' : Ev (fun q => quoinref09_Same.j0 q K k p n m l k p' n' m' l') (if k = 4 ∨ K = false then decide (p = p' ∧ n = n') && (if k = 6 ∨ K = false then decide (m = m') && (if k = 5 ∨ K = false then sameL l l' else true) else (if k = 5 ∨ K = false then sameL l l' else true)) else (if k = 6 ∨ K = false then decide (m = m') && (if k = 5 ∨ K = false then sameL l l' else true) else (if k = 5 ∨ K = false then sameL l l' else true))) := by
          refine Ev.step (fun q => by rw [quoinref09_Same.j0]) (ev_if (fun h => ?_) (fun h => ?_))
          · rw [if_pos (.inl h)]; exact E1 true
          · cases K with
            | true => rw [if_neg (by simp [h])]; exact E1 false
            | false => rw [if_pos (.inr rfl)]; exact E1 true
        refine ev_eq E0' ?_
        rw [sameT]
        simp only [ne_eq, not_true_eq_false, if_false]
        by_cases h07 : 0 ≤ k ∧ k ≤ 7
        · rw [decide_eq_true h07] at hK
          subst hK
          by_cases h4 : k = 4
          · simp [h4]
          · by_cases h5 : k = 5
            · simp [h5]
            · by_cases h6 : k = 6
              · simp [h6]
              · simp [h4, h5, h6, h07]
        · rw [decide_eq_false h07] at hK
          subst hK
          have h4 : ¬ k = 4 := by omega
          have h5 : ¬ k = 5 := by omega
          have h6 : ¬ k = 6 := by omega
          simp only [h4, h5, h6, h07, or_true, if_true, if_false]
          by_cases hp : p = p' ∧ n = n'
          · by_cases hm : m = m'
            · simp [hp, hm]
            · simp [hp, hm]
          · rw [show decide (p = p' ∧ n = n') = false from decide_eq_false hp, show decide (p = p' ∧ n = n' ∧ m = m') = false from decide_eq_false (fun e => hp ⟨e.1, e.2.1⟩)]; simp
      refine Ev.step (fun q => by rw [quoinref09_Same.f]) (ev_if (fun _ => ev_if (fun h => ?_) (fun h => ?_)) (fun h => absurd rfl h))
      · exact E0 _ (by simp [show (0 : Int) ≤ k from h])
      · exact E0 _ (by rw [decide_eq_false (by omega)])
    · refine ev_eq (Ev.step (fun q => by rw [quoinref09_Same.f]) (ev_if (fun h => absurd h hk) (fun _ => Ev.now false))) ?_
      rw [sameT, if_pos hk]

theorem alike_ev {a : Ty} (ha : TyOk a) : ∀ b : Ty, Ev (fun k => quoinref11_Alike.f k a.f0 a.f1 a.f2 a.f3 a.f4 b.f0 b.f1 b.f2 b.f3 b.f4) (alikeT a b) := by
  induction ha with
  | mk t hl hs ih =>
    intro b
    have HS := same_ev (TyOk.mk t hl hs) b
    obtain ⟨k, p, n, m, l⟩ := t
    obtain ⟨k', p', n', m', l'⟩ := b
    dsimp only at hl hs ih HS ⊢
    have E1t : Ev (fun q => quoinref11_Alike.j1 q true k p n m l k' p' n' m' l') (sameT ⟨k, p, n, m, l⟩ ⟨k', p', n', m', l'⟩) :=
      Ev.step (fun q => by rw [quoinref11_Alike.j1]) (ev_if (fun _ => ev_bind (f := fun _ t => some t) HS (Ev.now _)) (fun h => absurd rfl h))
    have E1f : Ev (fun q => quoinref11_Alike.j1 q false k p n m l k' p' n' m' l') (alikeL l l') := by
      refine Ev.step (fun q => by rw [quoinref11_Alike.j1]) (ev_if (fun h => by cases h) (fun _ => ev_if (fun h => ?_) (fun h => ?_)))
      · have h' : l.length = l'.length := by omega
        have := ev_loop (fun q i => quoinref11_Alike.l0 q i k p n m l k' p' n' m' l') alikeT (fun q x y => quoinref11_Alike.f q x.f0 x.f1 x.f2 x.f3 x.f4 y.f0 y.f1 y.f2 y.f3 y.f4) l l' h' (by omega) ih (fun q i => by rw [quoinref11_Alike.l0]) l.length 0 (by omega)
        rw [alikeL_all]
        exact this
      · rw [alikeL_all, allL_len _ _ _ (by omega)]
        exact Ev.now false
    rw [alikeT]
    refine Ev.step (fun q => by rw [quoinref11_Alike.f]) (ev_if (fun h => ?_) (fun h => ?_))
    · rw [if_pos h]
      exact Ev.step (fun q => by rw [quoinref11_Alike.j0]) (ev_if (fun _ => Ev.now true) (fun h => absurd rfl h))
    · rw [if_neg h]
      by_cases h' : k' = 0
      · rw [if_pos h', show (k' == 0) = true by simp [h']]
        exact Ev.step (fun q => by rw [quoinref11_Alike.j0]) (ev_if (fun _ => Ev.now true) (fun h => absurd rfl h))
      · rw [if_neg h', show (k' == 0) = false from beq_eq_false_iff_ne.2 h']
        refine Ev.step (fun q => by rw [quoinref11_Alike.j0]) (ev_if (fun h => by cases h) (fun _ => ev_if (fun h5 => ?_) (fun h5 => ?_)))
        · by_cases h5' : k' = 5
          · rw [if_pos ⟨h5, h5'⟩, show (k' != 5) = false by simp [h5']]; exact E1f
          · rw [if_neg (fun e => h5' e.2), show (k' != 5) = true by simp [h5']]; exact E1t
        · rw [if_neg (fun e => h5 e.1)]; exact E1t

theorem allL_comm {q : Ty → Ty → Bool} : ∀ (l m : List Ty), (∀ x ∈ l, ∀ y, q x y = q y x) → allL q l m = allL q m l
  | [], [], _ => rfl
  | [], _ :: _, _ => rfl
  | _ :: _, [], _ => rfl
  | a :: r, b :: s, h => by rw [allL, allL, h a List.mem_cons_self b, allL_comm r s (fun x hx => h x (List.mem_cons_of_mem _ hx))]
theorem allL_self {q : Ty → Ty → Bool} : ∀ (l : List Ty), (∀ x ∈ l, q x x = true) → allL q l l = true
  | [], _ => rfl
  | a :: r, h => by rw [allL, h a List.mem_cons_self, allL_self r (fun x hx => h x (List.mem_cons_of_mem _ hx))]; rfl
theorem allL_imp {q q' : Ty → Ty → Bool} : ∀ (l m : List Ty), (∀ x ∈ l, ∀ y, q x y = true → q' x y = true) → allL q l m = true → allL q' l m = true
  | [], [], _, _ => rfl
  | [], _ :: _, _, h => by simp [allL] at h
  | _ :: _, [], _, h => by simp [allL] at h
  | a :: r, b :: s, h, h1 => by
    rw [allL, Bool.and_eq_true] at h1
    rw [allL, h a List.mem_cons_self b h1.1, allL_imp r s (fun x hx => h x (List.mem_cons_of_mem _ hx)) h1.2]; rfl

theorem sameT_comm : ∀ (a b : Ty), sameT a b = sameT b a := by
  intro a
  induction tyAll a with
  | mk t hs ih =>
    intro b
    obtain ⟨k, p, n, m, l⟩ := t
    obtain ⟨k', p', n', m', l'⟩ := b
    have hl : sameL l l' = sameL l' l := by rw [sameL_all, sameL_all]; exact allL_comm l l' ih
    rw [sameT, sameT, hl]
    by_cases hk : k = k'
    · subst hk
      simp only [eq_comm (a := p) (b := p'), eq_comm (a := n) (b := n'), eq_comm (a := m) (b := m')]
    · rw [if_pos hk, if_pos (fun e => hk e.symm)]
theorem sameT_self : ∀ (a : Ty), sameT a a = true := by
  intro a
  induction tyAll a with
  | mk t hs ih =>
    obtain ⟨k, p, n, m, l⟩ := t
    have hl : sameL l l = true := by rw [sameL_all]; exact allL_self l ih
    rw [sameT, hl]
    simp
theorem alikeT_comm : ∀ (a b : Ty), alikeT a b = alikeT b a := by
  intro a
  induction tyAll a with
  | mk t hs ih =>
    intro b
    obtain ⟨k, p, n, m, l⟩ := t
    obtain ⟨k', p', n', m', l'⟩ := b
    have hl : alikeL l l' = alikeL l' l := by rw [alikeL_all, alikeL_all]; exact allL_comm l l' ih
    rw [alikeT, alikeT, hl, sameT_comm ⟨k, p, n, m, l⟩]
    by_cases h0 : k = 0 <;> by_cases h1 : k' = 0 <;> simp [h0, h1, and_comm]
theorem alikeT_self : ∀ (a : Ty), alikeT a a = true := by
  intro a
  induction tyAll a with
  | mk t hs ih =>
    obtain ⟨k, p, n, m, l⟩ := t
    have hl : alikeL l l = true := by rw [alikeL_all]; exact allL_self l ih
    rw [alikeT, hl, sameT_self]
    simp
theorem alikeT_same : ∀ (a b : Ty), sameT a b = true → alikeT a b = true := by
  intro a
  induction tyAll a with
  | mk t hs ih =>
    intro b h
    obtain ⟨k, p, n, m, l⟩ := t
    obtain ⟨k', p', n', m', l'⟩ := b
    rw [alikeT, h]
    by_cases h5 : k = 5 ∧ k' = 5
    · obtain ⟨rfl, rfl⟩ := h5
      have h2 : sameL l l' = true := by simpa [sameT] using h
      rw [sameL_all] at h2
      have h3 : alikeL l l' = true := by rw [alikeL_all]; exact allL_imp l l' ih h2
      simp [h3]
    · simp [h5]
end Go.Proofs.Ytbhagjhhgmmcgaa
