/- The plain side of lex. -/
namespace Go.Proofs.YtlmggfbpdciioaaDoor

/-- layout -/
def layB (c : UInt8) : Bool := c == 32 || c == 9 || c == 10 || c == 13
def letterB (c : UInt8) : Bool := (97 ≤ c && c ≤ 122) || (65 ≤ c && c ≤ 90) || c == 95
def digitB (c : UInt8) : Bool := 48 ≤ c && c ≤ 57
def partB (c : UInt8) : Bool := letterB c || digitB c
def quoteB (c : UInt8) : Bool := 32 ≤ c && c ≤ 126 && c != 34
def lineB (c : UInt8) : Bool := c != 10
def symsL : List UInt8 := [40, 41, 123, 125, 91, 93, 44, 59, 46, 61, 60, 43, 45, 42, 33]

/-- how many bytes at the begin are so -/
def wh (p : UInt8 → Bool) (l : List UInt8) : Nat := (l.takeWhile p).length
theorem wh_nil (p : UInt8 → Bool) : wh p [] = 0 := rfl
theorem wh_cons (p : UInt8 → Bool) (c : UInt8) (r : List UInt8) : wh p (c :: r) = if p c then wh p r + 1 else 0 := by
  unfold wh; rw [List.takeWhile_cons]; split <;> simp_all
theorem wh_le (p : UInt8 → Bool) (l : List UInt8) : wh p l ≤ l.length := by
  unfold wh; exact (List.takeWhile_sublist p).length_le

/-- how many bytes layout and comments take; true: within a comment -/
def skipN : Bool → List UInt8 → Nat
  | _, [] => 0
  | true, c :: r => if c = 10 then skipN false r + 1 else skipN true r + 1
  | false, c :: r => if layB c then skipN false r + 1 else if c = 47 ∧ r.head? = some 47 then skipN true r + 1 else 0

theorem skipN_le : ∀ (m : Bool) (l : List UInt8), skipN m l ≤ l.length
  | _, [] => by unfold skipN; simp
  | true, c :: r => by
    unfold skipN
    have h1 := skipN_le false r
    have h2 := skipN_le true r
    split <;> simp <;> omega
  | false, c :: r => by
    unfold skipN
    have h1 := skipN_le false r
    have h2 := skipN_le true r
    split
    · simp; omega
    · split <;> simp <;> omega

/-- what begins behind layout -/
def Stop (l : List UInt8) : Prop := l = [] ∨ ∃ c r, l = c :: r ∧ layB c = false ∧ ¬ (c = 47 ∧ r.head? = some 47)

theorem skip_stop : ∀ (m : Bool) (l : List UInt8), Stop (l.drop (skipN m l))
  | _, [] => .inl (by simp)
  | true, c :: r => by
    unfold skipN
    split
    · exact skip_stop false r
    · exact skip_stop true r
  | false, c :: r => by
    unfold skipN
    split
    · exact skip_stop false r
    · split
      · exact skip_stop true r
      · rename_i h1 h2
        exact .inr ⟨c, r, rfl, by simpa using h1, h2⟩

theorem skip_of_stop {l : List UInt8} (h : Stop l) : skipN false l = 0 := by
  rcases h with rfl | ⟨c, r, rfl, h1, h2⟩
  · rfl
  · unfold skipN; rw [h1, if_neg (by simp), if_neg h2]

/-- one round of the program's loop -/
theorem skip_wh_lay (l : List UInt8) : skipN false l = wh layB l + skipN false (l.drop (wh layB l)) := by
  induction l with
  | nil => rfl
  | cons c r ih =>
    rw [wh_cons]
    by_cases h : layB c
    · rw [if_pos h, List.drop_succ_cons]
      conv => lhs; unfold skipN
      rw [if_pos h]; omega
    · rw [if_neg h]; simp
theorem skip_wh_line (l : List UInt8) : skipN true l = wh lineB l + skipN false (l.drop (wh lineB l)) := by
  induction l with
  | nil => rfl
  | cons c r ih =>
    rw [wh_cons]
    by_cases h : c = 10
    · have hf : lineB c = false := by unfold lineB; simp [h]
      rw [hf, if_neg (by simp)]
      subst h
      simp only [List.drop_zero, Nat.zero_add]
      unfold skipN
      rw [if_pos rfl, if_pos (by decide)]
    · have hf : lineB c = true := by unfold lineB; simpa using h
      rw [hf, if_pos rfl, List.drop_succ_cons]
      conv => lhs; unfold skipN
      rw [if_neg h]; omega
theorem skip_comment {l : List UInt8} (h : [47, 47] <+: l) : skipN false l = wh lineB l + skipN false (l.drop (wh lineB l)) := by
  obtain ⟨r, rfl⟩ := h
  rw [← skip_wh_line]
  simp only [List.cons_append, List.nil_append]
  conv => lhs; unfold skipN
  conv => rhs; unfold skipN
  simp [layB]
theorem wh_lay_stop (l : List UInt8) : ∀ c r, l.drop (wh layB l) = c :: r → layB c = false := by
  induction l with
  | nil => intro c r h; simp at h
  | cons a l ih =>
    intro c r h
    rw [wh_cons] at h
    by_cases ha : layB a
    · rw [if_pos ha, List.drop_succ_cons] at h; exact ih c r h
    · rw [if_neg ha] at h; simp at h; obtain ⟨rfl, rfl⟩ := h; simpa using ha
theorem skip_end {l : List UInt8} (h : ¬ [47, 47] <+: l.drop (wh layB l)) : skipN false l = wh layB l := by
  rw [skip_wh_lay]
  rw [skip_of_stop]
  · rfl
  · rcases hd : l.drop (wh layB l) with _ | ⟨c, r⟩
    · exact .inl rfl
    · refine .inr ⟨c, r, rfl, wh_lay_stop l c r hd, fun hc => h ?_⟩
      rw [hd]
      obtain ⟨rfl, h2⟩ := hc
      rcases r with _ | ⟨x, r⟩
      · simp at h2
      · simp at h2; subst h2; exact ⟨r, rfl⟩

/-- skipping over what is cut just behind -/
theorem skip_take : ∀ (m : Bool) (l : List UInt8), skipN m (l.take (skipN m l)) = skipN m l
  | _, [] => by simp
  | true, c :: r => by
    by_cases h : c = 10
    · have e : skipN true (c :: r) = skipN false r + 1 := by rw [skipN, if_pos h]
      rw [e, List.take_succ_cons, skipN, if_pos h, skip_take false r]
    · have e : skipN true (c :: r) = skipN true r + 1 := by rw [skipN, if_neg h]
      rw [e, List.take_succ_cons, skipN, if_neg h, skip_take true r]
  | false, c :: r => by
    by_cases h : layB c
    · have e : skipN false (c :: r) = skipN false r + 1 := by rw [skipN, if_pos h]
      rw [e, List.take_succ_cons, skipN, if_pos h, skip_take false r]
    · by_cases h2 : c = 47 ∧ r.head? = some 47
      · have e : skipN false (c :: r) = skipN true r + 1 := by rw [skipN, if_neg h, if_pos h2]
        have ih := skip_take true r
        rw [e, List.take_succ_cons, skipN, if_neg h, if_pos, ih]
        refine ⟨h2.1, ?_⟩
        rcases r with _ | ⟨x, r⟩
        · simp at h2
        · have hx : x = 47 := by simpa using h2.2
          subst hx
          have e2 : skipN true (47 :: r) = skipN true r + 1 := by rw [skipN, if_neg (by decide)]
          rw [e2]; rfl
      · have e : skipN false (c :: r) = 0 := by rw [skipN, if_neg h, if_neg h2]
        rw [e]; simp [skipN]

/-- skipping, then a byte 10 and more: what is behind layout stays where it is -/
theorem skip_ten : ∀ (m : Bool) (l x : List UInt8), skipN m (l ++ 10 :: x) = if l.drop (skipN m l) = [] then l.length + 1 + skipN false x else skipN m l
  | true, [], x => by
    have e : skipN true (10 :: x) = skipN false x + 1 := by rw [skipN, if_pos rfl]
    rw [List.nil_append, e]; simp [skipN, Nat.add_comm]
  | false, [], x => by
    have e : skipN false (10 :: x) = skipN false x + 1 := by rw [skipN]; simp [layB]
    rw [List.nil_append, e]; simp [skipN, Nat.add_comm]
  | true, c :: r, x => by
    rw [List.cons_append]
    by_cases h : c = 10
    · have e : ∀ r, skipN true (c :: r) = skipN false r + 1 := fun r => by rw [skipN, if_pos h]
      rw [e, e, skip_ten false r x, List.drop_succ_cons, List.length_cons]
      split <;> omega
    · have e : ∀ r, skipN true (c :: r) = skipN true r + 1 := fun r => by rw [skipN, if_neg h]
      rw [e, e, skip_ten true r x, List.drop_succ_cons, List.length_cons]
      split <;> omega
  | false, c :: r, x => by
    rw [List.cons_append]
    by_cases h : layB c
    · have e : ∀ r, skipN false (c :: r) = skipN false r + 1 := fun r => by rw [skipN, if_pos h]
      rw [e, e, skip_ten false r x, List.drop_succ_cons, List.length_cons]
      split <;> omega
    · by_cases h2 : c = 47 ∧ r.head? = some 47
      · have e : skipN false (c :: r) = skipN true r + 1 := by rw [skipN, if_neg h, if_pos h2]
        have e' : skipN false (c :: (r ++ 10 :: x)) = skipN true (r ++ 10 :: x) + 1 := by
          rw [skipN, if_neg h, if_pos]
          refine ⟨h2.1, ?_⟩
          rcases r with _ | ⟨y, r⟩
          · simp at h2
          · simpa using h2.2
        rw [e, e', skip_ten true r x, List.drop_succ_cons, List.length_cons]
        split <;> omega
      · have e : skipN false (c :: r) = 0 := by rw [skipN, if_neg h, if_neg h2]
        have e' : skipN false (c :: (r ++ 10 :: x)) = 0 := by
          rw [skipN, if_neg h, if_neg]
          intro h3
          apply h2
          refine ⟨h3.1, ?_⟩
          rcases r with _ | ⟨y, r⟩
          · simp at h3
          · simpa using h3.2
        rw [e, e']; simp

/-- a word of the language -/
def wordsL : List (List UInt8) := [[112,97,99,107,97,103,101],[105,109,112,111,114,116],[116,121,112,101],[115,116,114,117,99,116],[105,110,116,101,114,102,97,99,101],[102,117,110,99],[108,101,116],[105,102],[101,108,115,101],[102,111,114],[114,101,116,117,114,110],[110,101,119],[116,114,117,101],[102,97,108,115,101],[105,110,116],[98,111,111,108],[116,101,120,116]]
def wordB (s : List UInt8) : Bool := wordsL.contains s

/-- the token at the begin: kind, length, what is wrong -/
def tokC (c : UInt8) (r : List UInt8) : Nat × Nat × Nat :=
    if letterB c then (if wordB (c :: r.take (wh partB r)) then 5 else 1, wh partB r + 1, if wh partB r + 1 > 40 then 4 else 0)
    else if digitB c then (2, wh digitB r + 1, if wh digitB r + 1 > 15 ∨ (c = 48 ∧ wh digitB r + 1 > 1) then 2 else 0)
    else if c = 34 then (3, wh quoteB r + 2, if (r.drop (wh quoteB r)).head? = some 34 ∧ wh quoteB r ≤ 200 then 0 else 3)
    else if (c = 61 ∨ c = 38) ∧ r.head? = some c then (4, 2, 0)
    else (4, 1, if c ∈ symsL then 0 else 1)

theorem tok_len_pos (c : UInt8) (r : List UInt8) : 1 ≤ (tokC c r).2.1 := by
  unfold tokC
  split
  · simp
  · split
    · simp
    · split
      · simp
      · split <;> simp
theorem tok_len_le (c : UInt8) (r : List UInt8) (h : (tokC c r).2.2 = 0) : (tokC c r).2.1 ≤ (c :: r).length := by
  have h1 := wh_le partB r
  have h2 := wh_le digitB r
  have h3 := wh_le quoteB r
  unfold tokC at h ⊢
  simp only [List.length_cons]
  split
  · simp; omega
  · split
    · simp; omega
    · split
      · rename_i h4 h5 h6
        simp only [if_neg h4, if_neg h5, if_pos h6] at h ⊢
        split at h
        · rename_i hq
          have : wh quoteB r < r.length := by
            rcases Nat.lt_or_ge (wh quoteB r) r.length with hl | hl
            · exact hl
            · rw [List.drop_eq_nil_of_le hl] at hq; simp at hq
          omega
        · simp at h
      · split
        · rename_i h7
          rcases r with _ | ⟨x, r⟩
          · simp at h7
          · simp
        · simp
theorem tok_kind_pos (c : UInt8) (r : List UInt8) : 1 ≤ (tokC c r).1 := by
  unfold tokC
  split
  · simp only; split <;> simp
  · split
    · simp
    · split
      · simp
      · split <;> simp

theorem wh_app (p : UInt8 → Bool) (y : List UInt8) (hy : ∀ c, y.head? = some c → p c = false) : ∀ l : List UInt8, wh p (l ++ y) = wh p l
  | [] => by
    rcases y with _ | ⟨c, y⟩
    · rfl
    · rw [List.nil_append, wh_cons, if_neg (by rw [hy c rfl]; simp)]; rfl
  | a :: l => by rw [List.cons_append, wh_cons, wh_cons, wh_app p y hy l]

theorem take_wh_app (p : UInt8 → Bool) (l y : List UInt8) : (l ++ y).take (wh p l) = l.take (wh p l) := by
  rw [List.take_append_of_le_length (wh_le p l)]

theorem head_drop_app (l y : List UInt8) (n : Nat) (h : n ≤ l.length) : ((l ++ y).drop n).head? = ((l.drop n).head?).or y.head? := by
  rw [List.drop_append_of_le_length h]
  rcases l.drop n with _ | ⟨a, b⟩ <;> simp

/-- what stands behind a token does not matter, if it can't be part of one -/
theorem tok_app (c : UInt8) (r y : List UInt8) (hy : ∀ d, y.head? = some d → d = 10 ∨ d = 32 ∨ d = 47) (hq : y.head? = some 10 ∨ (tokC c r).2.2 = 0) : tokC c (r ++ y) = tokC c r := by
  have k1 : wh partB (r ++ y) = wh partB r := wh_app _ _ (fun d h => by rcases hy d h with rfl | rfl | rfl <;> decide) r
  have k2 : wh digitB (r ++ y) = wh digitB r := wh_app _ _ (fun d h => by rcases hy d h with rfl | rfl | rfl <;> decide) r
  have k4 : ∀ c : UInt8, (c = 61 ∨ c = 38) → ((r ++ y).head? = some c ↔ r.head? = some c) := by
    intro c hc
    rcases r with _ | ⟨x, r⟩
    · simp only [List.nil_append, List.head?_nil, reduceCtorEq, iff_false]
      intro h
      rcases hy c h with rfl | rfl | rfl <;> simp at hc
    · simp
  unfold tokC at hq ⊢
  by_cases h1 : letterB c
  · simp only [h1, if_true, k1, take_wh_app]
  · by_cases h2 : digitB c
    · simp only [h1, h2, if_true, k2]
      simp
    · by_cases h3 : c = 34
      · simp only [if_neg h1, if_neg h2, if_pos h3] at hq ⊢
        have hw : wh quoteB (r ++ y) = wh quoteB r := by
          rcases hq with hq | hq
          · exact wh_app _ _ (fun d h => by rw [hq] at h; injection h with h; subst h; decide) r
          · split at hq
            · rename_i hh
              have hlt : wh quoteB r < r.length := by
                rcases Nat.lt_or_ge (wh quoteB r) r.length with hl | hl
                · exact hl
                · rw [List.drop_eq_nil_of_le hl] at hh; simp at hh
              clear hq hh k1 k2 k4 hy
              induction r with
              | nil => simp at hlt
              | cons a r ih =>
                rw [List.cons_append, wh_cons, wh_cons]
                rw [wh_cons] at hlt
                by_cases ha : quoteB a
                · rw [if_pos ha, if_pos ha]
                  rw [if_pos ha] at hlt
                  rw [ih (by simpa using hlt)]
                · rw [if_neg ha, if_neg ha]
            · simp at hq
        rw [hw, head_drop_app _ _ _ (wh_le _ _)]
        have hh : ((r.drop (wh quoteB r)).head?.or y.head? = some 34) ↔ (r.drop (wh quoteB r)).head? = some 34 := by
          rcases hd : (r.drop (wh quoteB r)).head? with _ | d
          · simp only [Option.none_or, reduceCtorEq, iff_false]
            intro h
            rcases hy 34 h with h | h | h <;> simp at h
          · simp
        simp only [hh]
      · simp only [if_neg h1, if_neg h2, if_neg h3]
        by_cases h4 : c = 61 ∨ c = 38
        · simp only [k4 c h4]
        · simp [h4]

/-- a token: kind, place, end -/
structure Tk where
  kd : Nat
  at_ : Nat
  en : Nat

def lexErr (n : Nat) (w : Nat) : Nat := if n ≥ 4000 then 6 else w

/-- The tokens from a place on (so many are ahead), layout first; what is wrong first, and where. -/
inductive Lx : Nat → Nat → List UInt8 → List Tk → Option (Nat × Nat) → Prop
  | fin {n at_ l} : l.drop (skipN false l) = [] → Lx n at_ l [⟨0, at_ + l.length, at_ + l.length⟩] none
  | bad {n at_ l c r} : l.drop (skipN false l) = c :: r → lexErr n (tokC c r).2.2 ≠ 0 → Lx n at_ l [] (some (at_ + skipN false l, lexErr n (tokC c r).2.2))
  | tok {n at_ l c r T e} : l.drop (skipN false l) = c :: r → n < 4000 → (tokC c r).2.2 = 0 → Lx (n + 1) (at_ + skipN false l + (tokC c r).2.1) ((c :: r).drop (tokC c r).2.1) T e →
      Lx n at_ l (⟨(tokC c r).1, at_ + skipN false l, at_ + skipN false l + (tokC c r).2.1⟩ :: T) e

theorem lx_total_aux : ∀ (N n at_ : Nat) (l : List UInt8), l.length ≤ N → ∃ T e, Lx n at_ l T e
  | N, n, at_, l, hN => by
    rcases hd : l.drop (skipN false l) with _ | ⟨c, r⟩
    · exact ⟨_, _, .fin hd⟩
    · by_cases h : lexErr n (tokC c r).2.2 = 0
      · have hn : n < 4000 := by
          unfold lexErr at h
          split at h <;> omega
        have hw : (tokC c r).2.2 = 0 := by
          unfold lexErr at h
          rw [if_neg (by omega)] at h
          exact h
        have h1 := tok_len_pos c r
        have h2 : (c :: r).length ≤ l.length := by rw [← hd, List.length_drop]; omega
        have h3 : 0 < (c :: r).length := by simp
        match N, hN with
        | 0, hN => omega
        | N + 1, hN =>
          obtain ⟨T, e, hT⟩ := lx_total_aux N (n + 1) (at_ + skipN false l + (tokC c r).2.1) ((c :: r).drop (tokC c r).2.1) (by rw [List.length_drop]; omega)
          exact ⟨_, _, .tok hd hn hw hT⟩
      · exact ⟨_, _, .bad hd h⟩
theorem lx_total (n at_ : Nat) (l : List UInt8) : ∃ T e, Lx n at_ l T e := lx_total_aux l.length n at_ l (Nat.le_refl _)

theorem lx_det {n at_ l T e T' e'} (h : Lx n at_ l T e) (h' : Lx n at_ l T' e') : T = T' ∧ e = e' := by
  induction h generalizing T' e' with
  | fin h1 =>
    cases h' with
    | fin h2 => exact ⟨rfl, rfl⟩
    | bad h2 _ => rw [h1] at h2; cases h2
    | tok h2 _ _ _ => rw [h1] at h2; cases h2
  | bad h1 hb =>
    cases h' with
    | fin h2 => rw [h1] at h2; cases h2
    | bad h2 _ => rw [h1] at h2; cases h2; exact ⟨rfl, rfl⟩
    | tok h2 hn hw _ =>
      rw [h1] at h2; cases h2
      exact absurd (by unfold lexErr; rw [if_neg (by omega)]; exact hw) hb
  | tok h1 hn hw _ ih =>
    cases h' with
    | fin h2 => rw [h1] at h2; cases h2
    | bad h2 hb =>
      rw [h1] at h2; cases h2
      exact absurd (by unfold lexErr; rw [if_neg (by omega)]; exact hw) hb
    | tok h2 _ _ h3 =>
      rw [h1] at h2; cases h2
      obtain ⟨rfl, rfl⟩ := ih h3
      exact ⟨rfl, rfl⟩

/-- How many tokens there may be. -/
theorem lx_len {n at_ l T e} (h : Lx n at_ l T e) : T.length ≤ l.length + 1 ∧ (n ≤ 4000 → n + T.length ≤ 4001) := by
  induction h with
  | fin _ => exact ⟨by simp, fun h => by simp; omega⟩
  | bad _ _ => exact ⟨by simp, fun h => by simp; omega⟩
  | @tok n at_ l c r T e h1 hn hw _ ih =>
    have h2 : (c :: r).length ≤ l.length := by rw [← h1, List.length_drop]; omega
    have h3 := tok_len_pos c r
    rw [List.length_drop] at ih
    simp only [List.length_cons] at ih h2 ⊢
    omega

/-- Where an error is: ahead of the end. -/
theorem lx_err {n at_ l T e} (h : Lx n at_ l T e) : ∀ a x, e = some (a, x) → at_ ≤ a ∧ a < at_ + l.length ∧ x ≠ 0 := by
  induction h with
  | fin _ => intro a x h; cases h
  | @bad n at_ l c r h1 hb =>
    intro a x h
    cases h
    refine ⟨by omega, ?_, hb⟩
    have : (l.drop (skipN false l)).length = (c :: r).length := by rw [h1]
    rw [List.length_drop] at this
    simp at this
    omega
  | @tok n at_ l c r T e h1 hn hw _ ih =>
    intro a x h
    have := ih a x h
    have h2 : (l.drop (skipN false l)).length = (c :: r).length := by rw [h1]
    have h3 := tok_len_le c r hw
    rw [List.length_drop] at this h2
    omega

def shift (d : Nat) (t : Tk) : Tk := ⟨t.kd, t.at_ + d, t.en + d⟩

theorem lx_shift {n at_ l T e} (d : Nat) (h : Lx n at_ l T e) : Lx n (at_ + d) l (T.map (shift d)) (e.map fun p => (p.1 + d, p.2)) := by
  induction h with
  | @fin n at_ l h1 =>
    have := Lx.fin (n := n) (at_ := at_ + d) h1
    rw [show at_ + d + l.length = at_ + l.length + d by omega] at this
    exact this
  | @bad n at_ l c r h1 hb =>
    have := Lx.bad (n := n) (at_ := at_ + d) h1 hb
    rw [show at_ + d + skipN false l = at_ + skipN false l + d by omega] at this
    exact this
  | @tok n at_ l c r T e h1 hn hw h2 ih =>
    rw [show at_ + skipN false l + (tokC c r).2.1 + d = at_ + d + skipN false l + (tokC c r).2.1 by omega] at ih
    have := Lx.tok h1 hn hw ih
    have e1 : at_ + d + skipN false l + (tokC c r).2.1 = at_ + skipN false l + (tokC c r).2.1 + d := by omega
    have e2 : at_ + d + skipN false l = at_ + skipN false l + d := by omega
    rw [e1, e2] at this
    exact this

/-- As long as there is room it does not matter how many are ahead. -/
theorem lx_count {n at_ l T e} (h : Lx n at_ l T e) (hn : n + l.length ≤ 4000) : ∀ m, m + l.length ≤ 4000 → Lx m at_ l T e := by
  induction h with
  | fin h1 => intro m _; exact .fin h1
  | @bad n at_ l c r h1 hb =>
    intro m hm
    have h2 : (l.drop (skipN false l)).length = (c :: r).length := by rw [h1]
    rw [List.length_drop] at h2
    simp only [List.length_cons] at h2
    have e1 : lexErr n (tokC c r).2.2 = (tokC c r).2.2 := by unfold lexErr; rw [if_neg (by omega)]
    have e2 : lexErr m (tokC c r).2.2 = (tokC c r).2.2 := by unfold lexErr; rw [if_neg (by omega)]
    rw [e1] at hb ⊢
    have := Lx.bad (n := m) (at_ := at_) h1 (by rw [e2]; exact hb)
    rwa [e2] at this
  | @tok n at_ l c r T e h1 hn' hw h2 ih =>
    intro m hm
    have h3 : (l.drop (skipN false l)).length = (c :: r).length := by rw [h1]
    have h4 := tok_len_pos c r
    rw [List.length_drop] at h3
    simp only [List.length_cons] at h3
    have hl : ((c :: r).drop (tokC c r).2.1).length + 1 ≤ l.length := by rw [List.length_drop]; simp; omega
    exact .tok h1 (by omega) hw (ih (by omega) _ (by omega))

/-- The end stands last, alone of kind 0. -/
theorem lx_last {n at_ l T e} (h : Lx n at_ l T e) (he : e = none) : ∃ T0, T = T0 ++ [⟨0, at_ + l.length, at_ + l.length⟩] ∧ ∀ t ∈ T0, 1 ≤ t.kd ∧ t.at_ < t.en ∧ at_ ≤ t.at_ ∧ t.en ≤ at_ + l.length := by
  induction h with
  | fin _ => exact ⟨[], rfl, fun t h => by cases h⟩
  | bad _ _ => cases he
  | @tok n at_ l c r T e h1 hn hw h2 ih =>
    obtain ⟨T0, rfl, h0⟩ := ih he
    have h3 : (l.drop (skipN false l)).length = (c :: r).length := by rw [h1]
    have h4 := tok_len_pos c r
    have h5 := tok_len_le c r hw
    rw [List.length_drop] at h3
    simp only [List.length_cons] at h3 h5
    have hl : ((c :: r).drop (tokC c r).2.1).length = l.length - skipN false l - (tokC c r).2.1 := by rw [List.length_drop]; simp; omega
    have hs := skipN_le false l
    have hz : at_ + skipN false l + (tokC c r).2.1 + (l.length - skipN false l - (tokC c r).2.1) = at_ + l.length := by omega
    rw [hl, hz] at h0 ⊢
    refine ⟨_ :: T0, rfl, fun t ht => ?_⟩
    rcases List.mem_cons.1 ht with rfl | ht
    · exact ⟨tok_kind_pos c r, by simp only; omega, by simp only; omega, by simp only; omega⟩
    · have := h0 t ht; omega

/-- Layout ahead. -/
theorem lx_ahead {n at_ x U f} (h : Lx n at_ x U f) : ∀ (y : List UInt8) (d a : Nat), at_ = a + d → y.drop d = x → d ≤ y.length → skipN false y = d + skipN false x → Lx n a y U f := by
  have key : ∀ (y x : List UInt8) (d : Nat), y.drop d = x → skipN false y = d + skipN false x → y.drop (skipN false y) = x.drop (skipN false x) := by
    intro y x d hy hs
    rw [hs, ← List.drop_drop, hy]
  cases h with
  | fin h1 =>
    rintro y d a rfl hy hd hs
    have := Lx.fin (n := n) (at_ := a) ((key y _ d hy hs).trans h1)
    have e : y.length = d + x.length := by rw [← hy, List.length_drop]; omega
    rw [e, ← Nat.add_assoc] at this
    exact this
  | bad h1 hb =>
    rintro y d a rfl hy hd hs
    have := Lx.bad (n := n) (at_ := a) ((key y _ d hy hs).trans h1) hb
    rw [hs, ← Nat.add_assoc] at this
    exact this
  | tok h1 hn hw h2 =>
    rintro y d a rfl hy hd hs
    rw [Nat.add_assoc a d] at h2
    rw [← hs] at h2
    have := Lx.tok (n := n) (at_ := a) ((key y _ d hy hs).trans h1) hn hw h2
    rw [hs, ← Nat.add_assoc] at this
    exact this

theorem drop_app_cons {l y r : List UInt8} {k : Nat} {c : UInt8} (h : l.drop k = c :: r) : (l ++ y).drop k = c :: (r ++ y) := by
  have hk : k ≤ l.length := by
    rcases Nat.lt_or_ge l.length k with hl | hl
    · rw [List.drop_eq_nil_of_le (by omega)] at h; cases h
    · exact hl
  rw [List.drop_append_of_le_length hk, h]; rfl

/-- A text, a byte 10, and another text: without what is wrong. -/
theorem lx_split {n at_ l T e} (h : Lx n at_ l T e) (x : List UInt8) : e = none →
    ∀ U f, Lx (n + T.length - 1) (at_ + l.length + 1) x U f → Lx n at_ (l ++ 10 :: x) (T.dropLast ++ U) f := by
  induction h with
  | @fin n at_ l h1 =>
    intro _ U f hU
    have hs := skip_ten false l x
    rw [if_pos h1] at hs
    simp only [List.length_singleton, Nat.add_sub_cancel, List.dropLast_singleton, List.nil_append] at hU ⊢
    refine lx_ahead hU (l ++ 10 :: x) (l.length + 1) at_ (by omega) ?_ (by simp) hs
    rw [← List.drop_drop, List.drop_left]; rfl
  | bad _ _ => intro h; cases h
  | @tok n at_ l c r T e h1 hn hw h2 ih =>
    intro he U f hU
    have hs := skip_ten false l x
    rw [if_neg (by rw [h1]; simp)] at hs
    have ht := tok_app c r (10 :: x) (fun d hd => by simp at hd; exact .inl hd.symm) (.inl rfl)
    have hd := drop_app_cons (y := 10 :: x) h1
    have h3 := congrArg List.length h1
    have h4 := tok_len_pos c r
    have h5 := tok_len_le c r hw
    rw [List.length_drop] at h3
    have hl : ((c :: r).drop (tokC c r).2.1).length = l.length - skipN false l - (tokC c r).2.1 := by rw [List.length_drop]; simp only [List.length_cons] at h3 ⊢; omega
    have hTne : T ≠ [] := by
      intro hT
      obtain ⟨T0, h0, _⟩ := lx_last h2 he
      rw [hT] at h0
      simp at h0
    have hTl : 0 < T.length := List.length_pos_iff.2 hTne
    rw [List.length_cons, show n + (T.length + 1) - 1 = n + 1 + T.length - 1 by omega] at hU
    simp only [List.length_cons] at h3 h5
    have hi := ih he U f (by rw [hl, show at_ + skipN false l + (tokC c r).2.1 + (l.length - skipN false l - (tokC c r).2.1) + 1 = at_ + l.length + 1 by omega]; exact hU)
    have hdr : (c :: (r ++ 10 :: x)).drop (tokC c r).2.1 = (c :: r).drop (tokC c r).2.1 ++ 10 :: x := by
      rw [← List.cons_append, List.drop_append_of_le_length (by simp only [List.length_cons]; omega)]
    have := Lx.tok (n := n) (at_ := at_) (l := l ++ 10 :: x) (c := c) (r := r ++ 10 :: x) (T := T.dropLast ++ U) (e := f) (by rw [hs]; exact hd) hn (by rw [ht]; exact hw) (by rw [ht, hs, hdr]; exact hi)
    rw [ht, hs] at this
    rw [List.dropLast_cons_of_ne_nil hTne, List.cons_append]
    exact this
/-- .. with what is wrong. -/
theorem lx_split_bad {n at_ l T e} (h : Lx n at_ l T e) (x : List UInt8) : e ≠ none → Lx n at_ (l ++ 10 :: x) T e := by
  induction h with
  | fin _ => intro h; exact absurd rfl h
  | @bad n at_ l c r h1 hb =>
    intro _
    have hs := skip_ten false l x
    rw [if_neg (by rw [h1]; simp)] at hs
    have ht := tok_app c r (10 :: x) (fun d hd => by simp at hd; exact .inl hd.symm) (.inl rfl)
    have := Lx.bad (n := n) (at_ := at_) (l := l ++ 10 :: x) (c := c) (r := r ++ 10 :: x) (by rw [hs]; exact drop_app_cons h1) (by rw [ht]; exact hb)
    rwa [ht, hs] at this
  | @tok n at_ l c r T e h1 hn hw h2 ih =>
    intro he
    have hs := skip_ten false l x
    rw [if_neg (by rw [h1]; simp)] at hs
    have ht := tok_app c r (10 :: x) (fun d hd => by simp at hd; exact .inl hd.symm) (.inl rfl)
    have h5 := tok_len_le c r hw
    have hdr : (c :: (r ++ 10 :: x)).drop (tokC c r).2.1 = (c :: r).drop (tokC c r).2.1 ++ 10 :: x := by
      rw [← List.cons_append, List.drop_append_of_le_length h5]
    have := Lx.tok (n := n) (at_ := at_) (l := l ++ 10 :: x) (c := c) (r := r ++ 10 :: x) (T := T) (e := e) (by rw [hs]; exact drop_app_cons h1) hn (by rw [ht]; exact hw) (by rw [ht, hs, hdr]; exact ih he)
    rwa [ht, hs] at this

theorem takeWhile_take (p : UInt8 → Bool) : ∀ (r : List UInt8) (n : Nat), wh p r ≤ n → wh p (r.take n) = wh p r
  | [], n, _ => by simp
  | a :: r, n, h => by
    rw [wh_cons] at h
    by_cases ha : p a
    · rw [if_pos ha] at h
      obtain ⟨n, rfl⟩ : ∃ m, n = m + 1 := ⟨n - 1, by omega⟩
      rw [List.take_succ_cons, wh_cons, wh_cons, if_pos ha, if_pos ha, takeWhile_take p r n (by omega)]
    · rw [wh_cons, if_neg ha]
      rcases n with _ | n
      · simp [wh]
      · rw [List.take_succ_cons, wh_cons, if_neg ha]

/-- What a token alone is. -/
theorem tok_alone (c : UInt8) (r : List UInt8) (hw : (tokC c r).2.2 = 0) : tokC c (r.take ((tokC c r).2.1 - 1)) = tokC c r := by
  unfold tokC at hw ⊢
  by_cases h1 : letterB c
  · simp only [if_pos h1, Nat.add_sub_cancel] at hw ⊢
    rw [takeWhile_take _ _ _ (Nat.le_refl _), List.take_take, Nat.min_self]
  · by_cases h2 : digitB c
    · simp only [if_neg h1, if_pos h2, Nat.add_sub_cancel] at hw ⊢
      rw [takeWhile_take _ _ _ (Nat.le_refl _)]
    · by_cases h3 : c = 34
      · simp only [if_neg h1, if_neg h2, if_pos h3] at hw ⊢
        rw [show wh quoteB r + 2 - 1 = wh quoteB r + 1 by omega, takeWhile_take _ _ _ (by omega)]
        have : ((r.take (wh quoteB r + 1)).drop (wh quoteB r)).head? = (r.drop (wh quoteB r)).head? := by
          rw [List.drop_take, show wh quoteB r + 1 - wh quoteB r = 1 by omega]
          rcases r.drop (wh quoteB r) with _ | ⟨a, b⟩ <;> rfl
        rw [this]
      · simp only [if_neg h1, if_neg h2, if_neg h3] at hw ⊢
        by_cases h4 : (c = 61 ∨ c = 38) ∧ r.head? = some c
        · simp only [if_pos h4]
          rw [if_pos]
          refine ⟨h4.1, ?_⟩
          rcases r with _ | ⟨a, r⟩
          · simp at h4
          · simpa using h4.2
        · simp only [if_neg h4] at hw ⊢
          rw [if_neg]
          simp
theorem tok_first (c : UInt8) (r : List UInt8) (hw : (tokC c r).2.2 = 0) : layB c = false ∧ c ≠ 47 := by
  constructor
  · cases h : layB c
    · rfl
    · exfalso
      unfold layB at h
      simp only [Bool.or_eq_true, beq_iff_eq] at h
      rcases h with ((rfl | rfl) | rfl) | rfl <;> (unfold tokC at hw; revert hw; simp [letterB, digitB, symsL])
  · rintro rfl
    unfold tokC at hw; revert hw; simp [letterB, digitB, symsL]

/-- Tokens' bytes with something between. -/
def joinL (b : List UInt8) : List (List UInt8) → List UInt8
  | [] => b
  | t :: ts => b ++ t ++ joinL b ts
theorem joinL_head (b : List UInt8) (ts) : ∃ y, joinL b ts = b ++ y := by
  cases ts with
  | nil => exact ⟨[], by simp [joinL]⟩
  | cons t ts => exact ⟨t ++ joinL b ts, by simp [joinL]⟩
/-- 'between' may stand between tokens. -/
structure Between (b : List UInt8) : Prop where
  skip : ∀ x, skipN false (b ++ x) = b.length + skipN false x
  head : ∃ d y, b = d :: y ∧ (d = 32 ∨ d = 47)
theorem between_blank : Between [32] := ⟨fun x => by
  have : skipN false (32 :: x) = skipN false x + 1 := by rw [skipN]; simp [layB]
  rw [List.singleton_append, this]; simp; omega, ⟨32, [], rfl, .inl rfl⟩⟩
theorem between_comment : Between [47, 47, 32, 120, 34, 32, 47, 47, 10] := ⟨fun x => by
  simp only [List.cons_append, List.nil_append]
  rw [skipN, if_neg (by decide), if_pos ⟨rfl, rfl⟩]
  iterate 8 (rw [skipN])
  simp; omega, ⟨47, _, rfl, .inr rfl⟩⟩

/-- A token's bytes. -/
def byts (s : List UInt8) (t : Tk) : List UInt8 := (s.drop t.at_).take (t.en - t.at_)

/-- Tokens joined are the same tokens again. -/
theorem lx_join {b : List UInt8} (hb : Between b) {n at_ l T e} (h : Lx n at_ l T e) : e = none → ∀ (s : List UInt8), s.drop at_ = l → ∀ (m a : Nat) (s' : List UInt8), m + T.length ≤ 4001 → s'.drop a = joinL b (T.map (byts s)) →
    ∃ T', Lx m a (joinL b (T.map (byts s))) T' none ∧ T'.map (fun t => (t.kd, byts s' t)) = T.map (fun t => (t.kd, byts s t)) := by
  induction h with
  | @fin n at_ l h1 =>
    intro _ s hs m a s' hm hs'
    have e0 : byts s ⟨0, at_ + l.length, at_ + l.length⟩ = [] := by simp [byts]
    have e1 : joinL b ([⟨0, at_ + l.length, at_ + l.length⟩].map (byts s)) = b ++ b := by simp [joinL, e0]
    rw [e1]
    have e2 : skipN false (b ++ b) = (b ++ b).length := by
      have h2 := hb.skip []
      rw [List.append_nil] at h2
      rw [hb.skip, h2]; simp [skipN]
    refine ⟨_, .fin (by rw [e2, List.drop_length]), ?_⟩
    simp [byts]
  | bad _ _ => intro h; cases h
  | @tok n at_ l c r T e h1 hn hw h2 ih =>
    intro he s hs m a s' hm hs'
    have h5 := tok_len_le c r hw
    have h4 := tok_len_pos c r
    have hTl : 0 < T.length := by
      obtain ⟨T0, h0, _⟩ := lx_last h2 he
      rw [h0]; simp
    rw [List.length_cons] at hm
    generalize hL : (tokC c r).2.1 = L at *
    have hdr : s.drop (at_ + skipN false l) = c :: r := by rw [← List.drop_drop, hs, h1]
    have hby : byts s ⟨(tokC c r).1, at_ + skipN false l, at_ + skipN false l + L⟩ = (c :: r).take L := by
      unfold byts
      simp only
      rw [hdr, Nat.add_sub_cancel_left]
    obtain ⟨y, hy⟩ := joinL_head b (T.map (byts s))
    have hj : joinL b ((⟨(tokC c r).1, at_ + skipN false l, at_ + skipN false l + L⟩ :: T).map (byts s)) = b ++ ((c :: r).take L ++ joinL b (T.map (byts s))) := by
      rw [List.map_cons, joinL, hby, List.append_assoc]
    rw [hj] at hs' ⊢
    have htl : (c :: r).take L = c :: r.take (L - 1) := by
      obtain ⟨k, rfl⟩ : ∃ k, L = k + 1 := ⟨L - 1, by omega⟩
      rfl
    have hlen : ((c :: r).take L).length = L := by rw [List.length_take]; omega
    obtain ⟨s1, hs1⟩ : ∃ s1, s1 = joinL b (T.map (byts s)) := ⟨_, rfl⟩
    have hs2 : s'.drop (a + b.length) = (c :: r).take L ++ s1 := by rw [← List.drop_drop, hs', List.drop_left, hs1]
    have hs3 : s'.drop (a + b.length + L) = s1 := by
      rw [← List.drop_drop, hs2, List.drop_left' hlen]
    obtain ⟨T', hT', hmap⟩ := ih he s (by rw [← List.drop_drop, hdr]) (m + 1) (a + b.length + L) s' (by omega) (by rw [hs3, hs1])
    rw [← hs1] at hT' ⊢
    have htok : tokC c (r.take (L - 1) ++ s1) = tokC c r := by
      have ha := tok_alone c r hw
      rw [hL] at ha
      rw [tok_app _ _ _ ?_ (.inr (by rw [ha]; exact hw)), ha]
      intro d hd
      rw [hs1, hy] at hd
      obtain ⟨d0, y0, rfl, hdd⟩ := hb.head
      simp at hd
      subst hd
      rcases hdd with h | h
      · exact .inr (.inl h)
      · exact .inr (.inr h)
    have hst : skipN false ((c :: r).take L ++ s1) = 0 := by
      apply skip_of_stop
      rw [htl]
      refine .inr ⟨c, _, rfl, (tok_first c r hw).1, fun h => (tok_first c r hw).2 h.1⟩
    have hx := Lx.tok (n := m) (at_ := a + b.length) (l := (c :: r).take L ++ s1) (c := c) (r := r.take (L - 1) ++ s1) (T := T') (e := none) (by rw [hst, htl]; rfl) (by omega) (by rw [htok]; exact hw)
      (by
        rw [htok, hst, hL, Nat.add_zero]
        have : (c :: (r.take (L - 1) ++ s1)).drop L = s1 := by
          rw [← List.cons_append, ← htl, List.drop_left' hlen]
        rw [this]
        exact hT')
    rw [htok, hst, hL] at hx
    refine ⟨_, lx_ahead hx (b ++ ((c :: r).take L ++ s1)) b.length a rfl List.drop_left (by simp) (hb.skip _), ?_⟩
    rw [List.map_cons, List.map_cons, hmap, hby]
    congr 2
    unfold byts
    simp only [Nat.add_zero]
    rw [hs2, Nat.add_sub_cancel_left, List.take_left' hlen]
end Go.Proofs.YtlmggfbpdciioaaDoor
