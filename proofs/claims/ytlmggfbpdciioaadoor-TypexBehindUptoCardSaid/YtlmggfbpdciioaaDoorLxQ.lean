/- lex: All, as its callers want it. -/
import Derived.Test.YtlmggfbpdciioaaDoorLxG
import Derived.Test.YtlmggfbpdciioaaDoorPRefx0
namespace Go.Proofs.YtlmggfbpdciioaaDoor
open Go.RowKit PRef Go.Proofs.YtlmggfbpdciioaaDoorW.PrintWords
set_option linter.unusedVariables false

/-- The tokens, reckoned. -/
def lexE : Nat → Nat → Nat → List UInt8 → Option (List Tk × Option (Nat × Nat))
  | 0, _, _, _ => none
  | f + 1, n, a, l => match l.drop (skipN false l) with
    | [] => some ([⟨0, a + l.length, a + l.length⟩], none)
    | c :: r => if lexErr n (tokC c r).2.2 = 0 then (lexE f (n + 1) (a + skipN false l + (tokC c r).2.1) ((c :: r).drop (tokC c r).2.1)).map fun p => (⟨(tokC c r).1, a + skipN false l, a + skipN false l + (tokC c r).2.1⟩ :: p.1, p.2)
      else some ([], some (a + skipN false l, lexErr n (tokC c r).2.2))
theorem lexE_lx : ∀ (f n a : Nat) (l : List UInt8) (T : List Tk) (e : Option (Nat × Nat)), lexE f n a l = some (T, e) → Lx n a l T e
  | 0, _, _, _, _, _, h => by cases h
  | f + 1, n, a, l, T, e, h => by
    unfold lexE at h
    rcases hd : l.drop (skipN false l) with _ | ⟨c, r⟩
    · rw [hd] at h
      cases h
      exact .fin hd
    · rw [hd] at h
      simp only at h
      by_cases hz : lexErr n (tokC c r).2.2 = 0
      · rw [if_pos hz] at h
        obtain ⟨p, hp, he⟩ := Option.map_eq_some_iff.1 h
        cases he
        have hn : n < 4000 := by
          unfold lexErr at hz
          split at hz <;> omega
        have hw : (tokC c r).2.2 = 0 := by
          unfold lexErr at hz
          rw [if_neg (by omega)] at hz
          exact hz
        exact .tok hd hn hw (lexE_lx f _ _ _ _ _ hp)
      · rw [if_neg hz] at h
        cases h
        exact .bad hd hz

/-- Tokens as the printed words have them. -/
def tkS (s : ByteArray) (t : Tk) : S31 := ⟨(t.kd : Int), (t.at_ : Int), (t.en : Int), s.extract t.at_ t.en⟩
def s31C (x : S31) : List Value := [.int .i64 x.f0, .int .i64 x.f1, .int .i64 x.f2, .string x.f3]
theorem flat_get {α : Type} (f : α → List Value) (m : Nat) (hf : ∀ x, (f x).length = m) : ∀ (l : List α) (j i : Nat) (x : α), l[j]? = some x → i < m → (l.flatMap f)[j * m + i]? = (f x)[i]?
  | [], j, i, x, h, _ => by simp at h
  | y :: l, 0, i, x, h, hi => by
    simp at h
    subst h
    rw [List.flatMap_cons, Nat.zero_mul, Nat.zero_add, List.getElem?_append_left (by rw [hf]; exact hi)]
  | y :: l, j + 1, i, x, h, hi => by
    rw [List.flatMap_cons, List.getElem?_append_right (by rw [hf, Nat.add_mul]; omega), hf, show (j + 1) * m + i - m = j * m + i by rw [Nat.add_mul]; omega]
    exact flat_get f m hf l j i x (by simpa using h) hi
theorem own_C {w : World} {base : Nat} {v : Value} {xs : List S31} (h : w.ownsRow base 31 4 v xs.length (xs.flatMap s31C)) (hx : xs.length ≤ 9223372036854775807) : ∃ A c, v = .slice A xs.length c ∧ xs.length ≤ c ∧ Kd.C k31 w A xs.length xs := by
  rcases h.2 with ⟨rfl, h0⟩ | ⟨g, cap, cur, rfl, hbg, hh, hc, rest⟩
  · have : xs.length = 0 := by omega
    refine ⟨none, 0, by rw [this], by omega, rfl, hx, fun hn => by omega⟩
  · refine ⟨_, cap, rfl, hc, rfl, hx, fun hn => ⟨_, rfl, fun j p hp => ⟨s31C p, rfl, k31_mk w p, fun i u hu => ?_⟩⟩⟩
    have hi : i < 4 := (List.getElem?_eq_some_iff.1 hu).1
    exact h.cells (g := g) rfl _ u ((flat_get s31C 4 (fun _ => rfl) xs j i p hp hi).trans hu)

/-- All. -/
theorem all_c (s : ByteArray) (hs : s.size ≤ 9223372036854775806) (w : World) (ht : Tab w) (T : List Tk) (e : Option (Nat × Nat)) (hL : Lx 0 0 s.data.toList T e) :
    Calls Tryd.prog 15 #[.string s] w fun r W => ∃ A c, r = .returned (.tuple #[.slice A (outT T e).length c, .agg #[.int .i64 (outA e : Int), .int .i64 (outC e : Int)]]) ∧ (outT T e).length ≤ c ∧ Kd.C k31 W A (outT T e).length ((outT T e).map (tkS s)) ∧ Below w.heap.size w W := by
  refine (all_any s hs w ht T e hL).mono fun r W h => ?_
  obtain ⟨v, rfl, hrow, hb⟩ := h
  have hl : (outT T e).length ≤ 4001 := by
    unfold outT
    have := (lx_len hL).2 (by omega)
    split <;> simp <;> omega
  have e1 : ((outT T e).map (good s)).flatMap itC = ((outT T e).map (tkS s)).flatMap s31C := by
    rw [List.flatMap_map, List.flatMap_map]; rfl
  rw [e1] at hrow
  obtain ⟨A, c, rfl, hc, hC⟩ := own_C (xs := (outT T e).map (tkS s)) (by rw [List.length_map]; exact hrow) (by rw [List.length_map]; omega)
  rw [List.length_map] at hc hC
  exact ⟨A, c, by rw [List.length_map], hc, hC, hb⟩
end Go.Proofs.YtlmggfbpdciioaaDoor
