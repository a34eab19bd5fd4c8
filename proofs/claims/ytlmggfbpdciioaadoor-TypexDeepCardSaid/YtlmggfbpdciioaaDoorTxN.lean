/- typex: texts of lists within lists. -/
import Derived.Test.YtlmggfbpdciioaaDoorTxL
namespace Go.Proofs.YtlmggfbpdciioaaDoor
open Go.RowKit PRef Go.Proofs.YtlmggfbpdciioaaDoorW.PrintWords
set_option linter.unusedVariables false
set_option linter.unusedSimpArgs false

/-- So many lists. -/
def txtN : Nat → ByteArray
  | 0 => ⟨#[]⟩
  | k + 1 => txtN k ++ ⟨#[91, 93]⟩
def sN (m : Nat) : ByteArray := txtN m ++ ⟨#[105, 110, 116]⟩
def tokN (m : Nat) : List Tk := match lexE 200 0 0 (sN m).data.toList with
  | some (T, none) => T
  | _ => []
def lN (m : Nat) : List S31 := (tokN m).map (tkS (sN m))
def chkN (m : Nat) : Bool :=
  (match lexE 200 0 0 (sN m).data.toList with
    | some (_, none) => true
    | _ => false) && decide ((sN m).size ≤ 1000) &&
  (let l := lN m
   (List.range m).all (fun i => isP (tokP l (2 * (i : Int))) bOpen && decide ((tokP l (2 * (i : Int))).f1 = 2 * (i : Int)) && isP (tokP l (2 * (i : Int) + 1)) bShut) && decide ((tokP l (2 * (m : Int))).f0 = 5 ∧ (tokP l (2 * (m : Int))).f1 = 2 * (m : Int) ∧ (tokP l (2 * (m : Int))).f3 = bInt) && decide (2 * (m : Int) + 1 ≤ l.length ∧ l.length ≤ 1000))
set_option maxRecDepth 100000 in
theorem chkN_all : (List.range 70).all chkN = true := by kernel_rfl
theorem lexN {m : Nat} (hm : m < 70) : Lx 0 0 (sN m).data.toList (tokN m) none := by
  have h : chkN m = true := List.all_eq_true.1 chkN_all m (List.mem_range.2 hm)
  unfold chkN at h
  simp only [Bool.and_eq_true] at h
  have h1 := h.1.1
  refine lexE_lx 200 _ _ _ _ _ ?_
  unfold tokN
  split at h1
  · rename_i T hT
    rw [hT]
  · cases h1
theorem lN_size {m : Nat} (hm : m < 70) : (sN m).size ≤ 1000 := by
  have h : chkN m = true := List.all_eq_true.1 chkN_all m (List.mem_range.2 hm)
  unfold chkN at h
  simp only [Bool.and_eq_true] at h
  exact of_decide_eq_true h.1.2
theorem lN_facts {m : Nat} (hm : m < 70) : (∀ i, i < m → isP (tokP (lN m) (2 * (i : Int))) bOpen = true ∧ (tokP (lN m) (2 * (i : Int))).f1 = 2 * (i : Int) ∧ isP (tokP (lN m) (2 * (i : Int) + 1)) bShut = true) ∧
    ((tokP (lN m) (2 * (m : Int))).f0 = 5 ∧ (tokP (lN m) (2 * (m : Int))).f1 = 2 * (m : Int) ∧ (tokP (lN m) (2 * (m : Int))).f3 = bInt) ∧ (2 * (m : Int) + 1 ≤ (lN m).length ∧ (lN m).length ≤ 1000) := by
  have h : chkN m = true := List.all_eq_true.1 chkN_all m (List.mem_range.2 hm)
  unfold chkN at h
  simp only [Bool.and_eq_true] at h
  obtain ⟨_, ⟨h1, h2⟩, h3⟩ := h
  refine ⟨fun i hi => ?_, of_decide_eq_true h2, of_decide_eq_true h3⟩
  have := List.all_eq_true.1 h1 i (List.mem_range.2 hi)
  simp only [Bool.and_eq_true] at this
  exact ⟨this.1.1, of_decide_eq_true this.1.2, this.2⟩

/-- The innermost j lists of m. -/
def xsN (m : Nat) : Nat → S38
  | 0 => ⟨1, 2 * (m : Int), ⟨#[]⟩, ⟨#[]⟩, []⟩
  | j + 1 => ⟨5, 2 * ((m - (j + 1) : Nat) : Int), ⟨#[]⟩, ⟨#[]⟩, [xsN m j]⟩
theorem deepN {m : Nat} (hm : m < 70) : ∀ (d j : Nat), j ≤ m → deepP (lN m) d (2 * ((m - j : Nat) : Int)) = if j ≤ d then (xsN m j, 2 * (m : Int) + 1, 0, 0) else (z38, 0, 2 * ((m - j + d : Nat) : Int), 6) := by
  obtain ⟨hO, hI, _⟩ := lN_facts hm
  intro d
  have hleaf : ∀ d, deepP (lN m) d (2 * (m : Int)) = (xsN m 0, 2 * (m : Int) + 1, 0, 0) := by
    intro d
    rw [deep_leaf_of (by unfold isP; rw [hI.1]; rfl)]
    unfold leafP
    rw [if_pos hI.1, if_pos hI.2.2, hI.2.1]
    rfl
  induction d with
  | zero =>
    intro j hj
    rcases j with _ | j
    · exact hleaf 0
    · rw [if_neg (by omega)]
      obtain ⟨o1, o2, o3⟩ := hO (m - (j + 1)) (by omega)
      rw [deep_zero_of o1]
      unfold failP
      rw [o2]
      rfl
  | succ d ih =>
    intro j hj
    rcases j with _ | j
    · rw [if_pos (by omega)]; exact hleaf (d + 1)
    · obtain ⟨o1, o2, o3⟩ := hO (m - (j + 1)) (by omega)
      rw [deepP, if_pos o1, if_pos o3, o2, show 2 * ((m - (j + 1) : Nat) : Int) + 2 = 2 * ((m - j : Nat) : Int) by omega, ih j (by omega)]
      by_cases h : j ≤ d
      · rw [if_pos h, if_pos (by omega)]
        unfold wrapR
        rw [if_pos rfl]
        rfl
      · rw [if_neg h, if_neg (by omega)]
        unfold wrapR
        rw [if_neg (by show ¬ (6 : Int) = 0; decide), show m - (j + 1) + (d + 1) = m - j + d by omega]
theorem parseN_ok {m : Nat} (hm : m ≤ 30) : parseP (lN m) 0 = (xsN m m, 2 * (m : Int) + 1, 0, 0) := by
  have h := deepN (m := m) (by omega) 30 m (Nat.le_refl m)
  rw [if_pos hm, Nat.sub_self] at h
  rw [parseP, if_neg (by omega)]
  exact h
theorem parseN_deep {m : Nat} (hm : m < 70) (hd : 30 < m) : parseP (lN m) 0 = (z38, 0, 60, 6) := by
  have h := deepN hm 30 m (Nat.le_refl m)
  rw [if_neg (by omega), Nat.sub_self] at h
  rw [parseP, if_neg (by omega)]
  exact h
end Go.Proofs.YtlmggfbpdciioaaDoor
