/- Plain laws for LexCovers and LexBehind. -/
import Derived.Test.YtlmggfbpdciioaaDoorLxK
namespace Go.Proofs.YtlmggfbpdciioaaDoor
open Go.RowKit PRef Go.Proofs.YtlmggfbpdciioaaDoorW.PrintWords
set_option linter.unusedVariables false
set_option linter.unusedSimpArgs false

/-- Tokens stand one behind the other, layout and comments between. -/
def Cov (l : List UInt8) : Nat → List Tk → Prop
  | a, [] => a = l.length
  | a, t :: ts => a ≤ t.at_ ∧ t.at_ ≤ t.en ∧ t.en ≤ l.length ∧ (t.kd = 0 ↔ ts = []) ∧ (t.en = t.at_ ↔ t.kd = 0) ∧ a + skipN false ((l.take t.at_).drop a) = t.at_ ∧ Cov l t.en ts

theorem cov_of {n at_ x T e} (h : Lx n at_ x T e) : e = none → ∀ l : List UInt8, l.drop at_ = x → at_ ≤ l.length → Cov l at_ T := by
  induction h with
  | @fin n at_ x h1 =>
    intro _ l hl ha
    have hx : x.length = l.length - at_ := by rw [← hl, List.length_drop]
    have hk : skipN false x = x.length := by
      have := skipN_le false x
      have h2 : (x.drop (skipN false x)).length = 0 := by rw [h1]; rfl
      rw [List.length_drop] at h2
      omega
    have e : at_ + x.length = l.length := by omega
    refine ⟨?_, Nat.le_refl _, ?_, by simp, by simp, ?_, ?_⟩
    · show at_ ≤ at_ + x.length; omega
    · show at_ + x.length ≤ l.length; omega
    · show at_ + skipN false ((l.take (at_ + x.length)).drop at_) = at_ + x.length
      rw [e, List.take_length, hl, hk]; exact e
    · exact e
  | bad _ _ => intro h; cases h
  | @tok n at_ x c r T e h1 hn hw h2 ih =>
    intro he l hl ha
    obtain ⟨T0, hT0, hin⟩ := lx_last (.tok h1 hn hw h2) he
    obtain ⟨T1, hT1, _⟩ := lx_last h2 he
    have hne : T ≠ [] := by rw [hT1]; simp
    have hmem : (⟨(tokC c r).1, at_ + skipN false x, at_ + skipN false x + (tokC c r).2.1⟩ : Tk) ∈ T0 := by
      rcases T0 with _ | ⟨a, T0⟩
      · simp at hT0; exact absurd hT0.2 hne
      · simp at hT0; rw [hT0.1]; exact List.mem_cons_self
    obtain ⟨q1, q2, q3, q4⟩ := hin _ hmem
    have q1 : 1 ≤ (tokC c r).1 := q1
    have q2 : at_ + skipN false x < at_ + skipN false x + (tokC c r).2.1 := q2
    have q4 : at_ + skipN false x + (tokC c r).2.1 ≤ at_ + x.length := q4
    have hxl : x.length = l.length - at_ := by rw [← hl, List.length_drop]
    refine ⟨?_, ?_, ?_, ?_, ?_, ?_, ?_⟩
    · show at_ ≤ at_ + skipN false x; omega
    · show at_ + skipN false x ≤ at_ + skipN false x + (tokC c r).2.1; omega
    · show at_ + skipN false x + (tokC c r).2.1 ≤ l.length; omega
    · exact ⟨fun h => by have h : (tokC c r).1 = 0 := h; omega, fun h => absurd h hne⟩
    · exact ⟨fun h => by have h : at_ + skipN false x + (tokC c r).2.1 = at_ + skipN false x := h; omega, fun h => by have h : (tokC c r).1 = 0 := h; omega⟩
    · show at_ + skipN false ((l.take (at_ + skipN false x)).drop at_) = at_ + skipN false x
      rw [List.drop_take, hl, show at_ + skipN false x - at_ = skipN false x by omega, skip_take]
    · refine ih he l ?_ ?_
      · rw [← h1, ← hl, List.drop_drop, List.drop_drop, Nat.add_assoc]
      · omega

theorem skip_nl : ∀ (n : Nat) (x : List UInt8), skipN false (List.replicate n 10 ++ x) = n + skipN false x
  | 0, x => by simp
  | n + 1, x => by
    rw [List.replicate_succ, List.cons_append, skipN, if_pos (by decide), skip_nl n x]
    omega
theorem behind_a {s : ByteArray} {T : List Tk} {e : Option (Nat × Nat)} (h : Lx 0 0 s.data.toList T e) (n : Nat) (A : ByteArray) (hA : A.data.toList = List.replicate n 10) :
    Lx 0 0 (A ++ s).data.toList (T.map (shift n)) (e.map fun p => (p.1 + n, p.2)) := by
  rw [ba_app, hA]
  exact lx_ahead (lx_shift n h) _ n 0 rfl (by rw [List.drop_left' (by simp)]) (by simp) (skip_nl n _)
theorem behind_c {s : ByteArray} {T : List Tk} (h : Lx 0 0 s.data.toList T none) : ∃ z, Lx 0 0 (s ++ ⟨#[10, 47, 47, 32, 34]⟩).data.toList (T.dropLast ++ [⟨0, z, z⟩]) none := by
  have h3 := lx_split h [47, 47, 32, 34] rfl _ _ (Lx.fin (by decide))
  refine ⟨0 + s.data.toList.length + 1 + ([47, 47, 32, 34] : List UInt8).length, ?_⟩
  rw [ba_app]
  exact h3
theorem behind_same {s : ByteArray} {T : List Tk} (h : Lx 0 0 s.data.toList T none) (z : Nat) : ((T.dropLast ++ ([⟨0, z, z⟩] : List Tk)).map (tkS (s ++ ⟨#[10, 47, 47, 32, 34]⟩))).map (fun (x : S31) => (x.f0, x.f3)) = (T.map (tkS s)).map (fun (x : S31) => (x.f0, x.f3)) := by
  obtain ⟨T0, rfl, hin⟩ := lx_last h rfl
  rw [List.dropLast_concat, List.map_append, List.map_append, List.map_append, List.map_append]
  congr 1
  · rw [List.map_map, List.map_map]
    apply List.map_congr_left
    intro t ht
    have := hin t ht
    rw [len_toList] at this
    simp only [Function.comp, Prod.mk.injEq]
    exact ⟨rfl, tk_ahead s _ _ (ba_app _ _) t (by omega) (by omega)⟩
  · simp only [List.map_cons, List.map_nil, List.cons.injEq, and_true, Prod.mk.injEq]
    refine ⟨rfl, ba_ext ?_⟩
    rw [tk_bytes, tk_bytes]
    unfold byts
    simp

def nl : Nat → ByteArray
  | 0 => ⟨#[]⟩
  | n + 1 => nl n ++ ⟨#[10]⟩
theorem nl_list : ∀ n, (nl n).data.toList = List.replicate n 10
  | 0 => rfl
  | n + 1 => by rw [nl, ba_app, nl_list n, List.replicate_succ']
theorem nl_size (n : Nat) : (nl n).size = n := by
  have := len_toList (nl n)
  rw [nl_list, List.length_replicate] at this
  omega
end Go.Proofs.YtlmggfbpdciioaaDoor
