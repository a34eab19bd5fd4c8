-- Written by a program (the kit's print.py over several roots); not typed by hand.
import Derived.Test.YtbhagjhhgmmcgaaPRefx0
import Derived.Test.YtbhagjhhgmmcgaaPRefx8
namespace Go.Proofs.Ytbhagjhhgmmcgaa.PRef
open Go.RowKit Go.Proofs.YtbhagjhhgmmcgaaW.PrintWords Go.Proofs.YtbhagjhhgmmcgaaW.PrintLast Go.Proofs.YtbhagjhhgmmcgaaW.PrintMore
attribute [local go_sem] max2_int min2_int max_two min_two max_three min_three max_four min_four   -- for this text's walks alone
set_option linter.unusedVariables false
set_option linter.unusedSimpArgs false

/-! ### quoinlaw11_small: function 15 -/
mutual
def quoinlaw11_small.j0 : Nat → List (S29) → Bool → List (S74) → List ByteArray → List ByteArray → List (S29) → List (S127) → Option (Bool)
  | 0, _, _, _, _, _, _, _ => none
  | k + 1, x1, x20, x140000, x140001, x140002, x140003, x140004 => if x20 = true then (some false) else (quoinlaw11_small.l0 k x1 0 x140000 x140001 x140002 x140003 x140004)
def quoinlaw11_small.l0 : Nat → List (S29) → Int → List (S74) → List ByteArray → List ByteArray → List (S29) → List (S127) → Option (Bool)
  | 0, _, _, _, _, _, _, _ => none
  | k + 1, x1, x5, x140000, x140001, x140002, x140003, x140004 => if x5 < (x140000.length : Int) then (if 0 ≤ x5 then (if (((rd_T74 x140000 x5).f1).length : Int) > 30 then (some false) else (quoinlaw11_small.l1 k x1 x5 0 x140000 x140001 x140002 x140003 x140004)) else (none)) else (quoinlaw11_small.l4 k x1 0)
def quoinlaw11_small.l1 : Nat → List (S29) → Int → Int → List (S74) → List ByteArray → List ByteArray → List (S29) → List (S127) → Option (Bool)
  | 0, _, _, _, _, _, _, _, _ => none
  | k + 1, x1, x5, x6, x140000, x140001, x140002, x140003, x140004 => if 0 ≤ x5 then (if x5 < (x140000.length : Int) then (if x6 < (((rd_T74 x140000 x5).f1).length : Int) then (if 0 ≤ x6 then (if (((rd_T35 ((rd_T74 x140000 x5).f1) x6).f3).length : Int) > 30 then (quoinlaw11_small.j3 k x1 x5 x6 true x140000 x140001 x140002 x140003 x140004 ((rd_T35 ((rd_T74 x140000 x5).f1) x6).f0) ((rd_T35 ((rd_T74 x140000 x5).f1) x6).f1) ((rd_T35 ((rd_T74 x140000 x5).f1) x6).f2) ((rd_T35 ((rd_T74 x140000 x5).f1) x6).f3)) else (quoinlaw11_small.j3 k x1 x5 x6 (decide ((((rd_T35 ((rd_T74 x140000 x5).f1) x6).f2).length : Int) > 30)) x140000 x140001 x140002 x140003 x140004 ((rd_T35 ((rd_T74 x140000 x5).f1) x6).f0) ((rd_T35 ((rd_T74 x140000 x5).f1) x6).f1) ((rd_T35 ((rd_T74 x140000 x5).f1) x6).f2) ((rd_T35 ((rd_T74 x140000 x5).f1) x6).f3))) else (none)) else (quoinlaw11_small.l0 k x1 (wrap64 (x5 + 1)) x140000 x140001 x140002 x140003 x140004)) else (none)) else (none)
def quoinlaw11_small.j3 : Nat → List (S29) → Int → Int → Bool → List (S74) → List ByteArray → List ByteArray → List (S29) → List (S127) → ByteArray → Bool → List (S83) → List (S50) → Option (Bool)
  | 0, _, _, _, _, _, _, _, _, _, _, _, _, _ => none
  | k + 1, x1, x5, x6, x65, x140000, x140001, x140002, x140003, x140004, x145000, x145001, x145002, x145003 => if x65 = true then (some false) else (quoinlaw11_small.l2 k x1 x5 x6 0 x140000 x140001 x140002 x140003 x140004 x145000 x145001 x145002 x145003)
def quoinlaw11_small.l2 : Nat → List (S29) → Int → Int → Int → List (S74) → List ByteArray → List ByteArray → List (S29) → List (S127) → ByteArray → Bool → List (S83) → List (S50) → Option (Bool)
  | 0, _, _, _, _, _, _, _, _, _, _, _, _, _ => none
  | k + 1, x1, x5, x6, x8, x140000, x140001, x140002, x140003, x140004, x145000, x145001, x145002, x145003 => if x8 < (x145003.length : Int) then (if 0 ≤ x8 then (if (((rd_T50 x145003 x8).f1).length : Int) > 20 then (quoinlaw11_small.j5 k x1 x5 x6 x8 true x140000 x140001 x140002 x140003 x140004 x145000 x145001 x145002 x145003) else ((quoinlaw11_parts.f k ((rd_T50 x145003 x8).f2.f0) ((rd_T50 x145003 x8).f2.f1) ((rd_T50 x145003 x8).f2.f2) ((rd_T50 x145003 x8).f2.f3) ((rd_T50 x145003 x8).f2.f4) 0).bind fun t147 => (quoinlaw11_small.j5 k x1 x5 x6 x8 (decide (t147 > 60)) x140000 x140001 x140002 x140003 x140004 x145000 x145001 x145002 x145003))) else (none)) else (quoinlaw11_small.l1 k x1 x5 (wrap64 (x6 + 1)) x140000 x140001 x140002 x140003 x140004)
def quoinlaw11_small.j5 : Nat → List (S29) → Int → Int → Int → Bool → List (S74) → List ByteArray → List ByteArray → List (S29) → List (S127) → ByteArray → Bool → List (S83) → List (S50) → Option (Bool)
  | 0, _, _, _, _, _, _, _, _, _, _, _, _, _, _ => none
  | k + 1, x1, x5, x6, x8, x90, x140000, x140001, x140002, x140003, x140004, x145000, x145001, x145002, x145003 => if x90 = true then (some false) else (quoinlaw11_small.l3 k x1 x5 x6 x8 0 x140000 x140001 x140002 x140003 x140004 x145000 x145001 x145002 x145003)
def quoinlaw11_small.l3 : Nat → List (S29) → Int → Int → Int → Int → List (S74) → List ByteArray → List ByteArray → List (S29) → List (S127) → ByteArray → Bool → List (S83) → List (S50) → Option (Bool)
  | 0, _, _, _, _, _, _, _, _, _, _, _, _, _, _ => none
  | k + 1, x1, x5, x6, x8, x9, x140000, x140001, x140002, x140003, x140004, x145000, x145001, x145002, x145003 => if 0 ≤ x8 then (if x8 < (x145003.length : Int) then (if x9 < (((rd_T50 x145003 x8).f1).length : Int) then (if 0 ≤ x9 then ((quoinlaw11_parts.f k ((rd_T29 ((rd_T50 x145003 x8).f1) x9).f0) ((rd_T29 ((rd_T50 x145003 x8).f1) x9).f1) ((rd_T29 ((rd_T50 x145003 x8).f1) x9).f2) ((rd_T29 ((rd_T50 x145003 x8).f1) x9).f3) ((rd_T29 ((rd_T50 x145003 x8).f1) x9).f4) 0).bind fun t151 => (if t151 > 60 then (some false) else (quoinlaw11_small.l3 k x1 x5 x6 x8 (wrap64 (x9 + 1)) x140000 x140001 x140002 x140003 x140004 x145000 x145001 x145002 x145003))) else (none)) else (quoinlaw11_small.l2 k x1 x5 x6 (wrap64 (x8 + 1)) x140000 x140001 x140002 x140003 x140004 x145000 x145001 x145002 x145003)) else (none)) else (none)
def quoinlaw11_small.l4 : Nat → List (S29) → Int → Option (Bool)
  | 0, _, _ => none
  | k + 1, x1, x10 => if x10 < (x1.length : Int) then (if 0 ≤ x10 then ((quoinlaw11_parts.f k ((rd_T29 x1 x10).f0) ((rd_T29 x1 x10).f1) ((rd_T29 x1 x10).f2) ((rd_T29 x1 x10).f3) ((rd_T29 x1 x10).f4) 0).bind fun t153 => (if t153 > 60 then (some false) else (quoinlaw11_small.l4 k x1 (wrap64 (x10 + 1))))) else (none)) else (some true)
end
def quoinlaw11_small.f (k : Nat) (l0_0 : List (S74)) (l0_1 : List ByteArray) (l0_2 : List ByteArray) (l0_3 : List (S29)) (l0_4 : List (S127)) (l1 : List (S29)) : Option (Bool) := if (l0_0.length : Int) > 20 then (quoinlaw11_small.j0 k l1 true l0_0 l0_1 l0_2 l0_3 l0_4) else (quoinlaw11_small.j0 k l1 (decide ((l0_3.length : Int) > 20)) l0_0 l0_1 l0_2 l0_3 l0_4)
theorem quoinlaw11_small.mono_l : ∀ k, (∀ y0 y1 y2 y3 y4 y5 y6, LeO (quoinlaw11_small.j0 k y0 y1 y2 y3 y4 y5 y6) (quoinlaw11_small.j0 (k + 1) y0 y1 y2 y3 y4 y5 y6)) ∧ (∀ y0 y1 y2 y3 y4 y5 y6, LeO (quoinlaw11_small.l0 k y0 y1 y2 y3 y4 y5 y6) (quoinlaw11_small.l0 (k + 1) y0 y1 y2 y3 y4 y5 y6)) ∧ (∀ y0 y1 y2 y3 y4 y5 y6 y7, LeO (quoinlaw11_small.l1 k y0 y1 y2 y3 y4 y5 y6 y7) (quoinlaw11_small.l1 (k + 1) y0 y1 y2 y3 y4 y5 y6 y7)) ∧ (∀ y0 y1 y2 y3 y4 y5 y6 y7 y8 y9 y10 y11 y12, LeO (quoinlaw11_small.j3 k y0 y1 y2 y3 y4 y5 y6 y7 y8 y9 y10 y11 y12) (quoinlaw11_small.j3 (k + 1) y0 y1 y2 y3 y4 y5 y6 y7 y8 y9 y10 y11 y12)) ∧ (∀ y0 y1 y2 y3 y4 y5 y6 y7 y8 y9 y10 y11 y12, LeO (quoinlaw11_small.l2 k y0 y1 y2 y3 y4 y5 y6 y7 y8 y9 y10 y11 y12) (quoinlaw11_small.l2 (k + 1) y0 y1 y2 y3 y4 y5 y6 y7 y8 y9 y10 y11 y12)) ∧ (∀ y0 y1 y2 y3 y4 y5 y6 y7 y8 y9 y10 y11 y12 y13, LeO (quoinlaw11_small.j5 k y0 y1 y2 y3 y4 y5 y6 y7 y8 y9 y10 y11 y12 y13) (quoinlaw11_small.j5 (k + 1) y0 y1 y2 y3 y4 y5 y6 y7 y8 y9 y10 y11 y12 y13)) ∧ (∀ y0 y1 y2 y3 y4 y5 y6 y7 y8 y9 y10 y11 y12 y13, LeO (quoinlaw11_small.l3 k y0 y1 y2 y3 y4 y5 y6 y7 y8 y9 y10 y11 y12 y13) (quoinlaw11_small.l3 (k + 1) y0 y1 y2 y3 y4 y5 y6 y7 y8 y9 y10 y11 y12 y13)) ∧ (∀ y0 y1, LeO (quoinlaw11_small.l4 k y0 y1) (quoinlaw11_small.l4 (k + 1) y0 y1))
  | 0 => ⟨fun _ _ _ _ _ _ _ r h => by simp [quoinlaw11_small.j0] at h, fun _ _ _ _ _ _ _ r h => by simp [quoinlaw11_small.l0] at h, fun _ _ _ _ _ _ _ _ r h => by simp [quoinlaw11_small.l1] at h, fun _ _ _ _ _ _ _ _ _ _ _ _ _ r h => by simp [quoinlaw11_small.j3] at h, fun _ _ _ _ _ _ _ _ _ _ _ _ _ r h => by simp [quoinlaw11_small.l2] at h, fun _ _ _ _ _ _ _ _ _ _ _ _ _ _ r h => by simp [quoinlaw11_small.j5] at h, fun _ _ _ _ _ _ _ _ _ _ _ _ _ _ r h => by simp [quoinlaw11_small.l3] at h, fun _ _ r h => by simp [quoinlaw11_small.l4] at h⟩
  | k + 1 => by
    obtain ⟨ih0, ih1, ih2, ih3, ih4, ih5, ih6, ih7⟩ := quoinlaw11_small.mono_l k
    refine ⟨?_, ?_, ?_, ?_, ?_, ?_, ?_, ?_⟩
    · intro y0 y1 y2 y3 y4 y5 y6
      unfold quoinlaw11_small.j0
      repeat' first
      | (with_reducible exact ih0 _ _ _ _ _ _ _)
      | (with_reducible exact ih1 _ _ _ _ _ _ _)
      | (with_reducible exact ih2 _ _ _ _ _ _ _ _)
      | (with_reducible exact ih3 _ _ _ _ _ _ _ _ _ _ _ _ _)
      | (with_reducible exact ih4 _ _ _ _ _ _ _ _ _ _ _ _ _)
      | (with_reducible exact ih5 _ _ _ _ _ _ _ _ _ _ _ _ _ _)
      | (with_reducible exact ih6 _ _ _ _ _ _ _ _ _ _ _ _ _ _)
      | (with_reducible exact ih7 _ _)
      | (with_reducible exact quoinlaw11_parts.mono _ _ _ _ _ _ _)
      | (with_reducible exact LeO.refl _)
      | (with_reducible exact LeO.none _)
      | (with_reducible refine LeO.ite ?_ ?_)
      | (with_reducible refine LeO.bind ?_ (fun _ => ?_))
      | exact ih0 _ _ _ _ _ _ _
      | exact ih1 _ _ _ _ _ _ _
      | exact ih2 _ _ _ _ _ _ _ _
      | exact ih3 _ _ _ _ _ _ _ _ _ _ _ _ _
      | exact ih4 _ _ _ _ _ _ _ _ _ _ _ _ _
      | exact ih5 _ _ _ _ _ _ _ _ _ _ _ _ _ _
      | exact ih6 _ _ _ _ _ _ _ _ _ _ _ _ _ _
      | exact ih7 _ _
      | exact quoinlaw11_parts.mono _ _ _ _ _ _ _
      | exact LeO.none _
      | refine LeO.ite ?_ ?_
      | refine LeO.bind ?_ (fun _ => ?_)
    · intro y0 y1 y2 y3 y4 y5 y6
      unfold quoinlaw11_small.l0
      repeat' first
      | (with_reducible exact ih0 _ _ _ _ _ _ _)
      | (with_reducible exact ih1 _ _ _ _ _ _ _)
      | (with_reducible exact ih2 _ _ _ _ _ _ _ _)
      | (with_reducible exact ih3 _ _ _ _ _ _ _ _ _ _ _ _ _)
      | (with_reducible exact ih4 _ _ _ _ _ _ _ _ _ _ _ _ _)
      | (with_reducible exact ih5 _ _ _ _ _ _ _ _ _ _ _ _ _ _)
      | (with_reducible exact ih6 _ _ _ _ _ _ _ _ _ _ _ _ _ _)
      | (with_reducible exact ih7 _ _)
      | (with_reducible exact quoinlaw11_parts.mono _ _ _ _ _ _ _)
      | (with_reducible exact LeO.refl _)
      | (with_reducible exact LeO.none _)
      | (with_reducible refine LeO.ite ?_ ?_)
      | (with_reducible refine LeO.bind ?_ (fun _ => ?_))
      | exact ih0 _ _ _ _ _ _ _
      | exact ih1 _ _ _ _ _ _ _
      | exact ih2 _ _ _ _ _ _ _ _
      | exact ih3 _ _ _ _ _ _ _ _ _ _ _ _ _
      | exact ih4 _ _ _ _ _ _ _ _ _ _ _ _ _
      | exact ih5 _ _ _ _ _ _ _ _ _ _ _ _ _ _
      | exact ih6 _ _ _ _ _ _ _ _ _ _ _ _ _ _
      | exact ih7 _ _
      | exact quoinlaw11_parts.mono _ _ _ _ _ _ _
      | exact LeO.none _
      | refine LeO.ite ?_ ?_
      | refine LeO.bind ?_ (fun _ => ?_)
    · intro y0 y1 y2 y3 y4 y5 y6 y7
      unfold quoinlaw11_small.l1
      repeat' first
      | (with_reducible exact ih0 _ _ _ _ _ _ _)
      | (with_reducible exact ih1 _ _ _ _ _ _ _)
      | (with_reducible exact ih2 _ _ _ _ _ _ _ _)
      | (with_reducible exact ih3 _ _ _ _ _ _ _ _ _ _ _ _ _)
      | (with_reducible exact ih4 _ _ _ _ _ _ _ _ _ _ _ _ _)
      | (with_reducible exact ih5 _ _ _ _ _ _ _ _ _ _ _ _ _ _)
      | (with_reducible exact ih6 _ _ _ _ _ _ _ _ _ _ _ _ _ _)
      | (with_reducible exact ih7 _ _)
      | (with_reducible exact quoinlaw11_parts.mono _ _ _ _ _ _ _)
      | (with_reducible exact LeO.refl _)
      | (with_reducible exact LeO.none _)
      | (with_reducible refine LeO.ite ?_ ?_)
      | (with_reducible refine LeO.bind ?_ (fun _ => ?_))
      | exact ih0 _ _ _ _ _ _ _
      | exact ih1 _ _ _ _ _ _ _
      | exact ih2 _ _ _ _ _ _ _ _
      | exact ih3 _ _ _ _ _ _ _ _ _ _ _ _ _
      | exact ih4 _ _ _ _ _ _ _ _ _ _ _ _ _
      | exact ih5 _ _ _ _ _ _ _ _ _ _ _ _ _ _
      | exact ih6 _ _ _ _ _ _ _ _ _ _ _ _ _ _
      | exact ih7 _ _
      | exact quoinlaw11_parts.mono _ _ _ _ _ _ _
      | exact LeO.none _
      | refine LeO.ite ?_ ?_
      | refine LeO.bind ?_ (fun _ => ?_)
    · intro y0 y1 y2 y3 y4 y5 y6 y7 y8 y9 y10 y11 y12
      unfold quoinlaw11_small.j3
      repeat' first
      | (with_reducible exact ih0 _ _ _ _ _ _ _)
      | (with_reducible exact ih1 _ _ _ _ _ _ _)
      | (with_reducible exact ih2 _ _ _ _ _ _ _ _)
      | (with_reducible exact ih3 _ _ _ _ _ _ _ _ _ _ _ _ _)
      | (with_reducible exact ih4 _ _ _ _ _ _ _ _ _ _ _ _ _)
      | (with_reducible exact ih5 _ _ _ _ _ _ _ _ _ _ _ _ _ _)
      | (with_reducible exact ih6 _ _ _ _ _ _ _ _ _ _ _ _ _ _)
      | (with_reducible exact ih7 _ _)
      | (with_reducible exact quoinlaw11_parts.mono _ _ _ _ _ _ _)
      | (with_reducible exact LeO.refl _)
      | (with_reducible exact LeO.none _)
      | (with_reducible refine LeO.ite ?_ ?_)
      | (with_reducible refine LeO.bind ?_ (fun _ => ?_))
      | exact ih0 _ _ _ _ _ _ _
      | exact ih1 _ _ _ _ _ _ _
      | exact ih2 _ _ _ _ _ _ _ _
      | exact ih3 _ _ _ _ _ _ _ _ _ _ _ _ _
      | exact ih4 _ _ _ _ _ _ _ _ _ _ _ _ _
      | exact ih5 _ _ _ _ _ _ _ _ _ _ _ _ _ _
      | exact ih6 _ _ _ _ _ _ _ _ _ _ _ _ _ _
      | exact ih7 _ _
      | exact quoinlaw11_parts.mono _ _ _ _ _ _ _
      | exact LeO.none _
      | refine LeO.ite ?_ ?_
      | refine LeO.bind ?_ (fun _ => ?_)
    · intro y0 y1 y2 y3 y4 y5 y6 y7 y8 y9 y10 y11 y12
      unfold quoinlaw11_small.l2
      repeat' first
      | (with_reducible exact ih0 _ _ _ _ _ _ _)
      | (with_reducible exact ih1 _ _ _ _ _ _ _)
      | (with_reducible exact ih2 _ _ _ _ _ _ _ _)
      | (with_reducible exact ih3 _ _ _ _ _ _ _ _ _ _ _ _ _)
      | (with_reducible exact ih4 _ _ _ _ _ _ _ _ _ _ _ _ _)
      | (with_reducible exact ih5 _ _ _ _ _ _ _ _ _ _ _ _ _ _)
      | (with_reducible exact ih6 _ _ _ _ _ _ _ _ _ _ _ _ _ _)
      | (with_reducible exact ih7 _ _)
      | (with_reducible exact quoinlaw11_parts.mono _ _ _ _ _ _ _)
      | (with_reducible exact LeO.refl _)
      | (with_reducible exact LeO.none _)
      | (with_reducible refine LeO.ite ?_ ?_)
      | (with_reducible refine LeO.bind ?_ (fun _ => ?_))
      | exact ih0 _ _ _ _ _ _ _
      | exact ih1 _ _ _ _ _ _ _
      | exact ih2 _ _ _ _ _ _ _ _
      | exact ih3 _ _ _ _ _ _ _ _ _ _ _ _ _
      | exact ih4 _ _ _ _ _ _ _ _ _ _ _ _ _
      | exact ih5 _ _ _ _ _ _ _ _ _ _ _ _ _ _
      | exact ih6 _ _ _ _ _ _ _ _ _ _ _ _ _ _
      | exact ih7 _ _
      | exact quoinlaw11_parts.mono _ _ _ _ _ _ _
      | exact LeO.none _
      | refine LeO.ite ?_ ?_
      | refine LeO.bind ?_ (fun _ => ?_)
    · intro y0 y1 y2 y3 y4 y5 y6 y7 y8 y9 y10 y11 y12 y13
      unfold quoinlaw11_small.j5
      repeat' first
      | (with_reducible exact ih0 _ _ _ _ _ _ _)
      | (with_reducible exact ih1 _ _ _ _ _ _ _)
      | (with_reducible exact ih2 _ _ _ _ _ _ _ _)
      | (with_reducible exact ih3 _ _ _ _ _ _ _ _ _ _ _ _ _)
      | (with_reducible exact ih4 _ _ _ _ _ _ _ _ _ _ _ _ _)
      | (with_reducible exact ih5 _ _ _ _ _ _ _ _ _ _ _ _ _ _)
      | (with_reducible exact ih6 _ _ _ _ _ _ _ _ _ _ _ _ _ _)
      | (with_reducible exact ih7 _ _)
      | (with_reducible exact quoinlaw11_parts.mono _ _ _ _ _ _ _)
      | (with_reducible exact LeO.refl _)
      | (with_reducible exact LeO.none _)
      | (with_reducible refine LeO.ite ?_ ?_)
      | (with_reducible refine LeO.bind ?_ (fun _ => ?_))
      | exact ih0 _ _ _ _ _ _ _
      | exact ih1 _ _ _ _ _ _ _
      | exact ih2 _ _ _ _ _ _ _ _
      | exact ih3 _ _ _ _ _ _ _ _ _ _ _ _ _
      | exact ih4 _ _ _ _ _ _ _ _ _ _ _ _ _
      | exact ih5 _ _ _ _ _ _ _ _ _ _ _ _ _ _
      | exact ih6 _ _ _ _ _ _ _ _ _ _ _ _ _ _
      | exact ih7 _ _
      | exact quoinlaw11_parts.mono _ _ _ _ _ _ _
      | exact LeO.none _
      | refine LeO.ite ?_ ?_
      | refine LeO.bind ?_ (fun _ => ?_)
    · intro y0 y1 y2 y3 y4 y5 y6 y7 y8 y9 y10 y11 y12 y13
      unfold quoinlaw11_small.l3
      repeat' first
      | (with_reducible exact ih0 _ _ _ _ _ _ _)
      | (with_reducible exact ih1 _ _ _ _ _ _ _)
      | (with_reducible exact ih2 _ _ _ _ _ _ _ _)
      | (with_reducible exact ih3 _ _ _ _ _ _ _ _ _ _ _ _ _)
      | (with_reducible exact ih4 _ _ _ _ _ _ _ _ _ _ _ _ _)
      | (with_reducible exact ih5 _ _ _ _ _ _ _ _ _ _ _ _ _ _)
      | (with_reducible exact ih6 _ _ _ _ _ _ _ _ _ _ _ _ _ _)
      | (with_reducible exact ih7 _ _)
      | (with_reducible exact quoinlaw11_parts.mono _ _ _ _ _ _ _)
      | (with_reducible exact LeO.refl _)
      | (with_reducible exact LeO.none _)
      | (with_reducible refine LeO.ite ?_ ?_)
      | (with_reducible refine LeO.bind ?_ (fun _ => ?_))
      | exact ih0 _ _ _ _ _ _ _
      | exact ih1 _ _ _ _ _ _ _
      | exact ih2 _ _ _ _ _ _ _ _
      | exact ih3 _ _ _ _ _ _ _ _ _ _ _ _ _
      | exact ih4 _ _ _ _ _ _ _ _ _ _ _ _ _
      | exact ih5 _ _ _ _ _ _ _ _ _ _ _ _ _ _
      | exact ih6 _ _ _ _ _ _ _ _ _ _ _ _ _ _
      | exact ih7 _ _
      | exact quoinlaw11_parts.mono _ _ _ _ _ _ _
      | exact LeO.none _
      | refine LeO.ite ?_ ?_
      | refine LeO.bind ?_ (fun _ => ?_)
    · intro y0 y1
      unfold quoinlaw11_small.l4
      repeat' first
      | (with_reducible exact ih0 _ _ _ _ _ _ _)
      | (with_reducible exact ih1 _ _ _ _ _ _ _)
      | (with_reducible exact ih2 _ _ _ _ _ _ _ _)
      | (with_reducible exact ih3 _ _ _ _ _ _ _ _ _ _ _ _ _)
      | (with_reducible exact ih4 _ _ _ _ _ _ _ _ _ _ _ _ _)
      | (with_reducible exact ih5 _ _ _ _ _ _ _ _ _ _ _ _ _ _)
      | (with_reducible exact ih6 _ _ _ _ _ _ _ _ _ _ _ _ _ _)
      | (with_reducible exact ih7 _ _)
      | (with_reducible exact quoinlaw11_parts.mono _ _ _ _ _ _ _)
      | (with_reducible exact LeO.refl _)
      | (with_reducible exact LeO.none _)
      | (with_reducible refine LeO.ite ?_ ?_)
      | (with_reducible refine LeO.bind ?_ (fun _ => ?_))
      | exact ih0 _ _ _ _ _ _ _
      | exact ih1 _ _ _ _ _ _ _
      | exact ih2 _ _ _ _ _ _ _ _
      | exact ih3 _ _ _ _ _ _ _ _ _ _ _ _ _
      | exact ih4 _ _ _ _ _ _ _ _ _ _ _ _ _
      | exact ih5 _ _ _ _ _ _ _ _ _ _ _ _ _ _
      | exact ih6 _ _ _ _ _ _ _ _ _ _ _ _ _ _
      | exact ih7 _ _
      | exact quoinlaw11_parts.mono _ _ _ _ _ _ _
      | exact LeO.none _
      | refine LeO.ite ?_ ?_
      | refine LeO.bind ?_ (fun _ => ?_)
theorem quoinlaw11_small.mono : ∀ a0 a1 a2 a3 a4 a5 k, LeO (quoinlaw11_small.f k a0 a1 a2 a3 a4 a5) (quoinlaw11_small.f (k + 1) a0 a1 a2 a3 a4 a5) := by
  intro a0 a1 a2 a3 a4 a5 k
  obtain ⟨ih0, ih1, ih2, ih3, ih4, ih5, ih6, ih7⟩ := quoinlaw11_small.mono_l k
  unfold quoinlaw11_small.f
  repeat' first
      | (with_reducible exact ih0 _ _ _ _ _ _ _)
      | (with_reducible exact ih1 _ _ _ _ _ _ _)
      | (with_reducible exact ih2 _ _ _ _ _ _ _ _)
      | (with_reducible exact ih3 _ _ _ _ _ _ _ _ _ _ _ _ _)
      | (with_reducible exact ih4 _ _ _ _ _ _ _ _ _ _ _ _ _)
      | (with_reducible exact ih5 _ _ _ _ _ _ _ _ _ _ _ _ _ _)
      | (with_reducible exact ih6 _ _ _ _ _ _ _ _ _ _ _ _ _ _)
      | (with_reducible exact ih7 _ _)
      | (with_reducible exact quoinlaw11_parts.mono _ _ _ _ _ _ _)
      | (with_reducible exact LeO.refl _)
      | (with_reducible exact LeO.none _)
      | (with_reducible refine LeO.ite ?_ ?_)
      | (with_reducible refine LeO.bind ?_ (fun _ => ?_))
      | exact ih0 _ _ _ _ _ _ _
      | exact ih1 _ _ _ _ _ _ _
      | exact ih2 _ _ _ _ _ _ _ _
      | exact ih3 _ _ _ _ _ _ _ _ _ _ _ _ _
      | exact ih4 _ _ _ _ _ _ _ _ _ _ _ _ _
      | exact ih5 _ _ _ _ _ _ _ _ _ _ _ _ _ _
      | exact ih6 _ _ _ _ _ _ _ _ _ _ _ _ _ _
      | exact ih7 _ _
      | exact quoinlaw11_parts.mono _ _ _ _ _ _ _
      | exact LeO.none _
      | refine LeO.ite ?_ ?_
      | refine LeO.bind ?_ (fun _ => ?_)
set_option maxHeartbeats 8000000 in
set_option maxRecDepth 100000 in
theorem quoinlaw11_small.calls (k : Nat) (A0_0 : Option Addr) (c0_0 : Nat) (l0_0 : List (S74)) (A0_1 : Option Addr) (c0_1 : Nat) (l0_1 : List ByteArray) (A0_2 : Option Addr) (c0_2 : Nat) (l0_2 : List ByteArray) (A0_3 : Option Addr) (c0_3 : Nat) (l0_3 : List (S29)) (A0_4 : Option Addr) (c0_4 : Nat) (l0_4 : List (S127)) (A1 : Option Addr) (c1 : Nat) (l1 : List (S29)) (r : Bool) (w : World) (hr0_0 : Kd.C k74 w A0_0 l0_0.length l0_0) (hc0_0 : l0_0.length ≤ c0_0) (hr0_1 : Kd.C Kd.string w A0_1 l0_1.length l0_1) (hc0_1 : l0_1.length ≤ c0_1) (hr0_2 : Kd.C Kd.string w A0_2 l0_2.length l0_2) (hc0_2 : l0_2.length ≤ c0_2) (hr0_3 : Kd.C k29 w A0_3 l0_3.length l0_3) (hc0_3 : l0_3.length ≤ c0_3) (hr0_4 : Kd.C k127 w A0_4 l0_4.length l0_4) (hc0_4 : l0_4.length ≤ c0_4) (hr1 : Kd.C k29 w A1 l1.length l1) (hc1 : l1.length ≤ c1) (h : quoinlaw11_small.f k l0_0 l0_1 l0_2 l0_3 l0_4 l1 = some r) :
    Calls Try.prog 15 #[.agg #[.slice A0_0 l0_0.length c0_0, .slice A0_1 l0_1.length c0_1, .slice A0_2 l0_2.length c0_2, .slice A0_3 l0_3.length c0_3, .slice A0_4 l0_4.length c0_4], .slice A1 l1.length c1] w fun e w' => e = .returned (.bool r) ∧ Below w.heap.size w w' := by
  have hu27 := Try.underlying27
  have hu35 := Try.underlying35
  have hu29 := Try.underlying29
  have HR0_0 := Aside0.mk hr0_0
  have HC0_0 := Aside0.mk hc0_0
  clear hr0_0 hc0_0
  have HR0_1 := Aside0.mk hr0_1
  have HC0_1 := Aside0.mk hc0_1
  clear hr0_1 hc0_1
  have HR0_2 := Aside0.mk hr0_2
  have HC0_2 := Aside0.mk hc0_2
  clear hr0_2 hc0_2
  have HR0_3 := Aside0.mk hr0_3
  have HC0_3 := Aside0.mk hc0_3
  clear hr0_3 hc0_3
  have HR0_4 := Aside0.mk hr0_4
  have HC0_4 := Aside0.mk hc0_4
  clear hr0_4 hc0_4
  have HR1 := Aside0.mk hr1
  have HC1 := Aside0.mk hc1
  clear hr1 hc1
  have HB := Aside0.mk (Below.refl w.heap.size w)
  have H : (if (l0_0.length : Int) > 20 then (quoinlaw11_small.j0 k l1 true l0_0 l0_1 l0_2 l0_3 l0_4) else (quoinlaw11_small.j0 k l1 (decide ((l0_3.length : Int) > 20)) l0_0 l0_1 l0_2 l0_3 l0_4)) = some r := h
  clear h
  have HC3 := Aside0.mk H
  clear H
  go_enter Try.func15, Try.ntmps15
  go_upto_region 1 with (first | ((with_reducible refine gate_dst (N := 2) rfl ?_); (try (refine gate_guard (by rfl) ?_; dsimp only)); refine box_event ?hg (N := 2) ?hd (cs := #[.slice A0_0 l0_0.length c0_0, .slice A0_1 l0_1.length c0_1, .slice A0_2 l0_2.length c0_2, .slice A0_3 l0_3.length c0_3, .slice A0_4 l0_4.length c0_4]) (t := 27) ?hr ?_; (case hd => rfl); (case hg => rfl); (case hr => first | (go_simp; done) | (go_simp; rfl)); intro gb139 hg w4 hbox hb; have n0_ := Aside0.mk (below_step (by repeat (first | (with_reducible first | exact HB.out | apply below_alloc | apply pw_below_drewN | apply below_drew1) | exact HB.out)) hb); have n1_ := Aside0.mk (hbox); have n2_ := Aside0.mk ((by rw [hg]; exact (below_size (by repeat (first | (with_reducible first | exact HB.out | apply below_alloc | apply pw_below_drewN | apply below_drew1) | exact HB.out))) : w.heap.size ≤ gb139)); have n3_ := Aside0.mk ((by rw [hg]; exact (below_size (by repeat (first | (with_reducible first | exact HB.out | apply below_alloc | apply pw_below_drewN | apply below_drew1) | exact HB.out))) : w.heap.size ≤ gb139)); clear HB; have HB := n0_; have BK139 := n1_; have GW139 := n2_; have GE139 := n3_; clear n0_ n1_ n2_ n3_; clear hb hbox hg))
  (try simp only [Act.put, List.setIfInBounds_toArray, List.set_cons_zero, List.set_cons_succ])
  go_cut [20] (fun v20 wc => ∃ (kq : Nat) (x20_2 : Bool), v20 = .bool x20_2 ∧ Aside0 (quoinlaw11_small.j0 kq l1 x20_2 l0_0 l0_1 l0_2 l0_3 l0_4 = some r) ∧ Aside0 (kq ≤ k) ∧ Aside0 (wc.heap[gb139]? = some (.cells #[(.slice A0_0 l0_0.length c0_0), (.slice A0_1 l0_1.length c0_1), (.slice A0_2 l0_2.length c0_2), (.slice A0_3 l0_3.length c0_3), (.slice A0_4 l0_4.length c0_4)] 27 (0, 0))) ∧ Aside0 (Below w.heap.size w wc))
  case first =>
    have H := HC3.out
    clear HC3
    by_cases c5 : (l0_0.length : Int) > 20
    · rw [if_pos c5] at H
      have c5b0 : decide (20 < (l0_0.length : Int)) = true := decide_eq_true c5
      have c5b1 : decide (20 < l0_0.length) = true := decide_eq_true (by omega)
      clear c5
      (first | rw [c5b0] | (simp only [i64_w, i32_w]; rw [c5b0]) | skip)
      have H' := Aside0.mk H
      clear H
      have hcz6_0 : w4.cell? ⟨gb139, 0, none⟩ = some (.slice A0_0 l0_0.length c0_0) := (blk_cell BK139.out 0).trans rfl
      have hcz6_1 : w4.cell? ⟨gb139, 1, none⟩ = some (.slice A0_1 l0_1.length c0_1) := (blk_cell BK139.out 1).trans rfl
      have hcz6_2 : w4.cell? ⟨gb139, 2, none⟩ = some (.slice A0_2 l0_2.length c0_2) := (blk_cell BK139.out 2).trans rfl
      have hcz6_3 : w4.cell? ⟨gb139, 3, none⟩ = some (.slice A0_3 l0_3.length c0_3) := (blk_cell BK139.out 3).trans rfl
      have hcz6_4 : w4.cell? ⟨gb139, 4, none⟩ = some (.slice A0_4 l0_4.length c0_4) := (blk_cell BK139.out 4).trans rfl
      have hfz6_0 := blk_frozen BK139.out 0
      have hfz6_1 := blk_frozen BK139.out 1
      have hfz6_2 := blk_frozen BK139.out 2
      have hfz6_3 := blk_frozen BK139.out 3
      have hfz6_4 := blk_frozen BK139.out 4
      go_wp2
      go_meet
      case rel => exact ⟨_, (true), (by first | rfl | (simp; done) | (simp [*]; done)), H', ⟨by first | omega | exact Nat.le_refl _⟩, ⟨by (with_reducible repeat (first | refine blk_drewN ?_ _ | refine blk_drew ?_ | refine blk_alloc ?_ _)); exact BK139.out⟩, ⟨by repeat (first | (with_reducible first | exact HB.out | apply below_alloc | apply pw_below_drewN | apply below_drew1 | refine below_set ?_ GE139.out) | exact HB.out)⟩⟩
    · rw [if_neg c5] at H
      have c5b0 : decide (20 < (l0_0.length : Int)) = false := decide_eq_false c5
      have c5b1 : decide (20 < l0_0.length) = false := decide_eq_false (by omega)
      clear c5
      (first | rw [c5b0] | (simp only [i64_w, i32_w]; rw [c5b0]) | skip)
      have H' := Aside0.mk H
      clear H
      have hcz7_0 : w4.cell? ⟨gb139, 0, none⟩ = some (.slice A0_0 l0_0.length c0_0) := (blk_cell BK139.out 0).trans rfl
      have hcz7_1 : w4.cell? ⟨gb139, 1, none⟩ = some (.slice A0_1 l0_1.length c0_1) := (blk_cell BK139.out 1).trans rfl
      have hcz7_2 : w4.cell? ⟨gb139, 2, none⟩ = some (.slice A0_2 l0_2.length c0_2) := (blk_cell BK139.out 2).trans rfl
      have hcz7_3 : w4.cell? ⟨gb139, 3, none⟩ = some (.slice A0_3 l0_3.length c0_3) := (blk_cell BK139.out 3).trans rfl
      have hcz7_4 : w4.cell? ⟨gb139, 4, none⟩ = some (.slice A0_4 l0_4.length c0_4) := (blk_cell BK139.out 4).trans rfl
      have hfz7_0 := blk_frozen BK139.out 0
      have hfz7_1 := blk_frozen BK139.out 1
      have hfz7_2 := blk_frozen BK139.out 2
      have hfz7_3 := blk_frozen BK139.out 3
      have hfz7_4 := blk_frozen BK139.out 4
      go_wp2
      go_meet
      case rel => exact ⟨_, (decide ((l0_3.length : Int) > 20)), (by first | rfl | (simp; done) | (simp [*]; done)), H', ⟨by first | omega | exact Nat.le_refl _⟩, ⟨by (with_reducible repeat (first | refine blk_drewN ?_ _ | refine blk_drew ?_ | refine blk_alloc ?_ _)); exact BK139.out⟩, ⟨by repeat (first | (with_reducible first | exact HB.out | apply below_alloc | apply pw_below_drewN | apply below_drew1 | refine below_set ?_ GE139.out) | exact HB.out)⟩⟩
  case rest =>
    clear HC3
    try clear c1
    try clear p2
    try clear c5
    try clear c5b0
    try clear c5b1
    try clear hcz6_0
    try clear hcz6_1
    try clear hcz6_2
    try clear hcz6_3
    try clear hcz6_4
    try clear hcz7_0
    try clear hcz7_1
    try clear hcz7_2
    try clear hcz7_3
    try clear hcz7_4
    try clear hfz6_0
    try clear hfz6_1
    try clear hfz6_2
    try clear hfz6_3
    try clear hfz6_4
    try clear hfz7_0
    try clear hfz7_1
    try clear hfz7_2
    try clear hfz7_3
    try clear hfz7_4
    obtain ⟨kq, x20_2, rfl, HA, HJ2, BK139, HB⟩ := hcut
    cases kq with
    | zero => exact absurd HA.out (by simp [quoinlaw11_small.j0])
    | succ kj2 =>
      have H := HA.out
      clear HA
      simp only [quoinlaw11_small.j0] at H
      by_cases c8 : x20_2 = true
      · subst c8
        have H1 : (some false) = some r := by rw [if_pos rfl] at H; exact H
        clear H
        have H := H1
        clear H1
        obtain rfl := Option.some.inj H
        go_wp2
        go_ret
        exact ⟨by first | rfl | (simp [errW_none, errW_some] <;> rfl) | (simp [*, errW_none, errW_some] <;> rfl), by repeat (first | (with_reducible first | exact HB.out | apply below_alloc | apply pw_below_drewN | apply below_drew1 | refine below_set ?_ GE139.out) | exact HB.out)⟩
      · replace c8 := Bool.eq_false_iff.mpr c8
        subst c8
        have H1 : (quoinlaw11_small.l0 kj2 l1 0 l0_0 l0_1 l0_2 l0_3 l0_4) = some r := by rw [if_neg (show ¬ (false = true) by decide)] at H; exact H
        clear H
        have H := H1
        clear H1
        have H' := Aside0.mk H
        clear H
        go_wp2
        go_loopg [5] kj2 (fun kq v5 w' => ∃ (x5_2 : Int), v5 = .int .i64 x5_2 ∧ Aside0 (quoinlaw11_small.l0 kq l1 x5_2 l0_0 l0_1 l0_2 l0_3 l0_4 = some r) ∧ Aside0 (kq ≤ kj2) ∧ Aside0 (w'.heap[gb139]? = some (.cells #[(.slice A0_0 l0_0.length c0_0), (.slice A0_1 l0_1.length c0_1), (.slice A0_2 l0_2.length c0_2), (.slice A0_3 l0_3.length c0_3), (.slice A0_4 l0_4.length c0_4)] 27 (0, 0))) ∧ Aside0 (Below w.heap.size w w'))
        case atStart => exact ⟨(0), (by first | rfl | (simp; done) | (simp [*]; done)), H', ⟨Nat.le_refl _⟩, ⟨by (with_reducible repeat (first | refine blk_drewN ?_ _ | refine blk_drew ?_ | refine blk_alloc ?_ _)); exact BK139.out⟩, ⟨by repeat (first | (with_reducible first | exact HB.out | apply below_alloc | apply pw_below_drewN | apply below_drew1 | refine below_set ?_ GE139.out) | exact HB.out)⟩⟩
        case round =>
          clear H'
          try clear c1
          try clear p2
          try clear c5
          try clear c5b0
          try clear c5b1
          try clear c8
          try clear hcz6_0
          try clear hcz6_1
          try clear hcz6_2
          try clear hcz6_3
          try clear hcz6_4
          try clear hcz7_0
          try clear hcz7_1
          try clear hcz7_2
          try clear hcz7_3
          try clear hcz7_4
          try clear hfz6_0
          try clear hfz6_1
          try clear hfz6_2
          try clear hfz6_3
          try clear hfz6_4
          try clear hfz7_0
          try clear hfz7_1
          try clear hfz7_2
          try clear hfz7_3
          try clear hfz7_4
          try clear p2
          obtain ⟨x5_2, rfl, HA, HK2, BK139, HB⟩ := hrel
          cases gk with
          | zero => exact absurd HA.out (by simp [quoinlaw11_small.l0])
          | succ k2 =>
            have H := HA.out
            clear HA
            simp only [quoinlaw11_small.l0] at H
            by_cases c9 : x5_2 < (l0_0.length : Int)
            · rw [if_pos c9] at H
              have c9b0 : decide (x5_2 < (l0_0.length : Int)) = true := decide_eq_true c9
              clear c9
              by_cases c10 : 0 ≤ x5_2
              · rw [if_pos c10] at H
                have c10b0 : decide (0 ≤ x5_2) = true := decide_eq_true c10
                clear c10
                by_cases c11 : (((rd_T74 l0_0 x5_2).f1).length : Int) > 30
                · rw [if_pos c11] at H
                  have c11b0 : decide (30 < (((rd_T74 l0_0 x5_2).f1).length : Int)) = true := decide_eq_true c11
                  have c11b1 : decide (30 < ((rd_T74 l0_0 x5_2).f1).length) = true := decide_eq_true (by omega)
                  clear c11
                  obtain rfl := Option.some.inj H
                  have hcz12_0 : wr.cell? ⟨gb139, 0, none⟩ = some (.slice A0_0 l0_0.length c0_0) := (blk_cell BK139.out 0).trans rfl
                  have hcz12_1 : wr.cell? ⟨gb139, 1, none⟩ = some (.slice A0_1 l0_1.length c0_1) := (blk_cell BK139.out 1).trans rfl
                  have hcz12_2 : wr.cell? ⟨gb139, 2, none⟩ = some (.slice A0_2 l0_2.length c0_2) := (blk_cell BK139.out 2).trans rfl
                  have hcz12_3 : wr.cell? ⟨gb139, 3, none⟩ = some (.slice A0_3 l0_3.length c0_3) := (blk_cell BK139.out 3).trans rfl
                  have hcz12_4 : wr.cell? ⟨gb139, 4, none⟩ = some (.slice A0_4 l0_4.length c0_4) := (blk_cell BK139.out 4).trans rfl
                  have hfz12_0 := blk_frozen BK139.out 0
                  have hfz12_1 := blk_frozen BK139.out 1
                  have hfz12_2 := blk_frozen BK139.out 2
                  have hfz12_3 := blk_frozen BK139.out 3
                  have hfz12_4 := blk_frozen BK139.out 4
                  have p140 : 0 ≤ (x5_2 : Int) := of_decide_eq_true (by first | (with_reducible assumption) | assumption)
                  have q140 : x5_2 < (l0_0.length : Int) := of_decide_eq_true (by first | (with_reducible assumption) | assumption)
                  obtain ⟨ad140, A140_1, c140_1, A140_2, c140_2, e140, hx140_0, hx140_1, hx140_2, hl140_1, hi140_1, hl140_2, hi140_2⟩ := at_T74 HR0_0.out x5_2 p140 q140
                  cases e140
                  replace hx140_0 := (HB.out.cell (World.block_lt_of_cell? w _ hx140_0)).trans hx140_0
                  replace hx140_1 := (HB.out.cell (World.block_lt_of_cell? w _ hx140_1)).trans hx140_1
                  replace hx140_2 := (HB.out.cell (World.block_lt_of_cell? w _ hx140_2)).trans hx140_2
                  have HR140_1 := Aside0.mk hi140_1
                  have HC140_1 := Aside0.mk hl140_1
                  clear hi140_1 hl140_1
                  have HR140_2 := Aside0.mk hi140_2
                  have HC140_2 := Aside0.mk hl140_2
                  clear hi140_2 hl140_2
                  replace p140 := eq_true p140
                  replace q140 := eq_true q140
                  go_wp2
                  go_ret
                  exact ⟨by first | rfl | (simp [errW_none, errW_some] <;> rfl) | (simp [*, errW_none, errW_some] <;> rfl), by repeat (first | (with_reducible first | exact HB.out | apply below_alloc | apply pw_below_drewN | apply below_drew1 | refine below_set ?_ GE139.out) | exact HB.out)⟩
                · rw [if_neg c11] at H
                  have c11b0 : decide (30 < (((rd_T74 l0_0 x5_2).f1).length : Int)) = false := decide_eq_false c11
                  have c11b1 : decide (30 < ((rd_T74 l0_0 x5_2).f1).length) = false := decide_eq_false (by omega)
                  clear c11
                  have H' := Aside0.mk H
                  clear H
                  have hcz13_0 : wr.cell? ⟨gb139, 0, none⟩ = some (.slice A0_0 l0_0.length c0_0) := (blk_cell BK139.out 0).trans rfl
                  have hcz13_1 : wr.cell? ⟨gb139, 1, none⟩ = some (.slice A0_1 l0_1.length c0_1) := (blk_cell BK139.out 1).trans rfl
                  have hcz13_2 : wr.cell? ⟨gb139, 2, none⟩ = some (.slice A0_2 l0_2.length c0_2) := (blk_cell BK139.out 2).trans rfl
                  have hcz13_3 : wr.cell? ⟨gb139, 3, none⟩ = some (.slice A0_3 l0_3.length c0_3) := (blk_cell BK139.out 3).trans rfl
                  have hcz13_4 : wr.cell? ⟨gb139, 4, none⟩ = some (.slice A0_4 l0_4.length c0_4) := (blk_cell BK139.out 4).trans rfl
                  have hfz13_0 := blk_frozen BK139.out 0
                  have hfz13_1 := blk_frozen BK139.out 1
                  have hfz13_2 := blk_frozen BK139.out 2
                  have hfz13_3 := blk_frozen BK139.out 3
                  have hfz13_4 := blk_frozen BK139.out 4
                  have p140 : 0 ≤ (x5_2 : Int) := of_decide_eq_true (by first | (with_reducible assumption) | assumption)
                  have q140 : x5_2 < (l0_0.length : Int) := of_decide_eq_true (by first | (with_reducible assumption) | assumption)
                  obtain ⟨ad140, A140_1, c140_1, A140_2, c140_2, e140, hx140_0, hx140_1, hx140_2, hl140_1, hi140_1, hl140_2, hi140_2⟩ := at_T74 HR0_0.out x5_2 p140 q140
                  cases e140
                  replace hx140_0 := (HB.out.cell (World.block_lt_of_cell? w _ hx140_0)).trans hx140_0
                  replace hx140_1 := (HB.out.cell (World.block_lt_of_cell? w _ hx140_1)).trans hx140_1
                  replace hx140_2 := (HB.out.cell (World.block_lt_of_cell? w _ hx140_2)).trans hx140_2
                  have HR140_1 := Aside0.mk hi140_1
                  have HC140_1 := Aside0.mk hl140_1
                  clear hi140_1 hl140_1
                  have HR140_2 := Aside0.mk hi140_2
                  have HC140_2 := Aside0.mk hl140_2
                  clear hi140_2 hl140_2
                  replace p140 := eq_true p140
                  replace q140 := eq_true q140
                  go_wp2
                  go_loopg [6] k2 (fun kq v6 w' => ∃ (x6_3 : Int), v6 = .int .i64 x6_3 ∧ Aside0 (quoinlaw11_small.l1 kq l1 x5_2 x6_3 l0_0 l0_1 l0_2 l0_3 l0_4 = some r) ∧ Aside0 (kq ≤ k2) ∧ Aside0 (w'.heap[gb139]? = some (.cells #[(.slice (some ad140) l0_0.length c0_0), (.slice A0_1 l0_1.length c0_1), (.slice A0_2 l0_2.length c0_2), (.slice A0_3 l0_3.length c0_3), (.slice A0_4 l0_4.length c0_4)] 27 (0, 0))) ∧ Aside0 (Below w.heap.size w w'))
                  case atStart => exact ⟨(0), (by first | rfl | (simp; done) | (simp [*]; done)), H', ⟨Nat.le_refl _⟩, ⟨by (with_reducible repeat (first | refine blk_drewN ?_ _ | refine blk_drew ?_ | refine blk_alloc ?_ _)); exact BK139.out⟩, ⟨by repeat (first | (with_reducible first | exact HB.out | apply below_alloc | apply pw_below_drewN | apply below_drew1 | refine below_set ?_ GE139.out) | exact HB.out)⟩⟩
                  case round =>
                    clear H'
                    try clear c1
                    try clear p1
                    try clear q1
                    try clear hx1
                    try clear p2
                    try clear c5
                    try clear c5b0
                    try clear c5b1
                    try clear c8
                    try clear c9
                    try clear c9b0
                    try clear c10
                    try clear c10b0
                    try clear c11
                    try clear c11b0
                    try clear c11b1
                    try clear hcz12_0
                    try clear hcz12_1
                    try clear hcz12_2
                    try clear hcz12_3
                    try clear hcz12_4
                    try clear hcz13_0
                    try clear hcz13_1
                    try clear hcz13_2
                    try clear hcz13_3
                    try clear hcz13_4
                    try clear hcz6_0
                    try clear hcz6_1
                    try clear hcz6_2
                    try clear hcz6_3
                    try clear hcz6_4
                    try clear hcz7_0
                    try clear hcz7_1
                    try clear hcz7_2
                    try clear hcz7_3
                    try clear hcz7_4
                    try clear hfz12_0
                    try clear hfz12_1
                    try clear hfz12_2
                    try clear hfz12_3
                    try clear hfz12_4
                    try clear hfz13_0
                    try clear hfz13_1
                    try clear hfz13_2
                    try clear hfz13_3
                    try clear hfz13_4
                    try clear hfz6_0
                    try clear hfz6_1
                    try clear hfz6_2
                    try clear hfz6_3
                    try clear hfz6_4
                    try clear hfz7_0
                    try clear hfz7_1
                    try clear hfz7_2
                    try clear hfz7_3
                    try clear hfz7_4
                    try clear hx140_0
                    try clear hx140_1
                    try clear hx140_2
                    try clear p140
                    try clear p2
                    try clear q140
                    obtain ⟨x6_3, rfl, HA, HK3, BK139, HB⟩ := hrel
                    cases gk with
                    | zero => exact absurd HA.out (by simp [quoinlaw11_small.l1])
                    | succ k3 =>
                      have H := HA.out
                      clear HA
                      simp only [quoinlaw11_small.l1] at H
                      by_cases c14 : 0 ≤ x5_2
                      · rw [if_pos c14] at H
                        have c14b0 : decide (0 ≤ x5_2) = true := decide_eq_true c14
                        clear c14
                        by_cases c15 : x5_2 < (l0_0.length : Int)
                        · rw [if_pos c15] at H
                          have c15b0 : decide (x5_2 < (l0_0.length : Int)) = true := decide_eq_true c15
                          clear c15
                          by_cases c16 : x6_3 < (((rd_T74 l0_0 x5_2).f1).length : Int)
                          · rw [if_pos c16] at H
                            have c16b0 : decide (x6_3 < (((rd_T74 l0_0 x5_2).f1).length : Int)) = true := decide_eq_true c16
                            clear c16
                            by_cases c17 : 0 ≤ x6_3
                            · rw [if_pos c17] at H
                              have c17b0 : decide (0 ≤ x6_3) = true := decide_eq_true c17
                              clear c17
                              have HC18 := Aside0.mk H
                              clear H
                              have hcz19_0 : wr.cell? ⟨gb139, 0, none⟩ = some (.slice (some ad140) l0_0.length c0_0) := (blk_cell BK139.out 0).trans rfl
                              have hcz19_1 : wr.cell? ⟨gb139, 1, none⟩ = some (.slice A0_1 l0_1.length c0_1) := (blk_cell BK139.out 1).trans rfl
                              have hcz19_2 : wr.cell? ⟨gb139, 2, none⟩ = some (.slice A0_2 l0_2.length c0_2) := (blk_cell BK139.out 2).trans rfl
                              have hcz19_3 : wr.cell? ⟨gb139, 3, none⟩ = some (.slice A0_3 l0_3.length c0_3) := (blk_cell BK139.out 3).trans rfl
                              have hcz19_4 : wr.cell? ⟨gb139, 4, none⟩ = some (.slice A0_4 l0_4.length c0_4) := (blk_cell BK139.out 4).trans rfl
                              have hfz19_0 := blk_frozen BK139.out 0
                              have hfz19_1 := blk_frozen BK139.out 1
                              have hfz19_2 := blk_frozen BK139.out 2
                              have hfz19_3 := blk_frozen BK139.out 3
                              have hfz19_4 := blk_frozen BK139.out 4
                              have p141 : 0 ≤ (x5_2 : Int) := of_decide_eq_true (by first | (with_reducible assumption) | assumption)
                              have q141 : x5_2 < (l0_0.length : Int) := of_decide_eq_true (by first | (with_reducible assumption) | assumption)
                              obtain ⟨ad141, A141_1, c141_1, A141_2, c141_2, e141, hx141_0, hx141_1, hx141_2, hl141_1, hi141_1, hl141_2, hi141_2⟩ := at_T74 HR0_0.out x5_2 p141 q141
                              obtain rfl : ad140 = ad141 := (by injection e141)
                              replace hx141_0 := (HB.out.cell (World.block_lt_of_cell? w _ hx141_0)).trans hx141_0
                              replace hx141_1 := (HB.out.cell (World.block_lt_of_cell? w _ hx141_1)).trans hx141_1
                              replace hx141_2 := (HB.out.cell (World.block_lt_of_cell? w _ hx141_2)).trans hx141_2
                              have HR141_1 := Aside0.mk hi141_1
                              have HC141_1 := Aside0.mk hl141_1
                              clear hi141_1 hl141_1
                              have HR141_2 := Aside0.mk hi141_2
                              have HC141_2 := Aside0.mk hl141_2
                              clear hi141_2 hl141_2
                              replace p141 := eq_true p141
                              replace q141 := eq_true q141
                              have p142 : 0 ≤ (x5_2 : Int) := of_decide_eq_true (by first | (with_reducible assumption) | assumption)
                              have q142 : x5_2 < (l0_0.length : Int) := of_decide_eq_true (by first | (with_reducible assumption) | assumption)
                              obtain ⟨ad142, A142_1, c142_1, A142_2, c142_2, e142, hx142_0, hx142_1, hx142_2, hl142_1, hi142_1, hl142_2, hi142_2⟩ := at_T74 HR0_0.out x5_2 p142 q142
                              obtain rfl : ad140 = ad142 := (by injection e142)
                              replace hx142_0 := (HB.out.cell (World.block_lt_of_cell? w _ hx142_0)).trans hx142_0
                              replace hx142_1 := (HB.out.cell (World.block_lt_of_cell? w _ hx142_1)).trans hx142_1
                              replace hx142_2 := (HB.out.cell (World.block_lt_of_cell? w _ hx142_2)).trans hx142_2
                              have HR142_1 := Aside0.mk hi142_1
                              have HC142_1 := Aside0.mk hl142_1
                              clear hi142_1 hl142_1
                              have HR142_2 := Aside0.mk hi142_2
                              have HC142_2 := Aside0.mk hl142_2
                              clear hi142_2 hl142_2
                              replace p142 := eq_true p142
                              replace q142 := eq_true q142
                              have ea_ := Option.some.inj (hx141_1.symm.trans hx142_1)
                              injection ea_ with ea_ en_ ec_
                              subst ea_
                              subst ec_
                              clear en_
                              have ea_ := Option.some.inj (hx141_2.symm.trans hx142_2)
                              injection ea_ with ea_ en_ ec_
                              subst ea_
                              subst ec_
                              clear en_
                              have p143 : 0 ≤ (x6_3 : Int) := of_decide_eq_true (by first | (with_reducible assumption) | assumption)
                              have q143 : x6_3 < (((rd_T74 l0_0 x5_2).f1).length : Int) := of_decide_eq_true (by first | (with_reducible assumption) | assumption)
                              obtain ⟨ad143, A143_2, c143_2, A143_3, c143_3, e143, hx143_0, hx143_1, hx143_2, hx143_3, hl143_2, hi143_2, hl143_3, hi143_3⟩ := at_T35 HR142_1.out x6_3 p143 q143
                              cases e143
                              replace hx143_0 := (HB.out.cell (World.block_lt_of_cell? w _ hx143_0)).trans hx143_0
                              replace hx143_1 := (HB.out.cell (World.block_lt_of_cell? w _ hx143_1)).trans hx143_1
                              replace hx143_2 := (HB.out.cell (World.block_lt_of_cell? w _ hx143_2)).trans hx143_2
                              replace hx143_3 := (HB.out.cell (World.block_lt_of_cell? w _ hx143_3)).trans hx143_3
                              have HR143_2 := Aside0.mk hi143_2
                              have HC143_2 := Aside0.mk hl143_2
                              clear hi143_2 hl143_2
                              have HR143_3 := Aside0.mk hi143_3
                              have HC143_3 := Aside0.mk hl143_3
                              clear hi143_3 hl143_3
                              replace p143 := eq_true p143
                              replace q143 := eq_true q143
                              go_upto_region 12 with (first | ((with_reducible refine gate_dst (N := 7) rfl ?_); (try (refine gate_guard (by rfl) ?_; dsimp only)); refine box_event ?hg (N := 7) ?hd (cs := #[.string (⟨#[]⟩ : ByteArray), .bool false, .slice none 0 0, .slice none 0 0]) (t := 35) ?hr ?_; (case hd => rfl); (case hg => rfl); (case hr => first | (go_simp; done) | (go_simp; rfl)); intro gb144 hg w20 hbox hb; have n0_ := Aside0.mk (blk_below (g := gb139) (o := .cells #[.slice (some ad140) l0_0.length c0_0, .slice A0_1 l0_1.length c0_1, .slice A0_2 l0_2.length c0_2, .slice A0_3 l0_3.length c0_3, .slice A0_4 l0_4.length c0_4] 27 (0, 0)) (by (with_reducible repeat (first | refine blk_drewN ?_ _ | refine blk_drew ?_ | refine blk_alloc ?_ _)); exact BK139.out) hb); have n1_ := Aside0.mk (below_step (by repeat (first | (with_reducible first | exact HB.out | apply below_alloc | apply pw_below_drewN | apply below_drew1 | refine below_set ?_ GE139.out) | exact HB.out)) hb); have n2_ := Aside0.mk (hbox); have n3_ := Aside0.mk ((by rw [hg]; exact (below_size (by repeat (first | (with_reducible first | exact HB.out | apply below_alloc | apply pw_below_drewN | apply below_drew1 | refine below_set ?_ GE139.out) | exact HB.out))) : w.heap.size ≤ gb144)); have n4_ := Aside0.mk ((by rw [hg]; exact (below_size (by repeat (first | (with_reducible first | exact HB.out | apply below_alloc | apply pw_below_drewN | apply below_drew1 | refine below_set ?_ GE139.out) | exact HB.out))) : w.heap.size ≤ gb144)); have n5_ := Aside0.mk ((by rw [hg]; exact Nat.ne_of_lt (blk_lt (g := gb139) (o := .cells #[.slice (some ad140) l0_0.length c0_0, .slice A0_1 l0_1.length c0_1, .slice A0_2 l0_2.length c0_2, .slice A0_3 l0_3.length c0_3, .slice A0_4 l0_4.length c0_4] 27 (0, 0)) (by (with_reducible repeat (first | refine blk_drewN ?_ _ | refine blk_drew ?_ | refine blk_alloc ?_ _)); exact BK139.out)) : gb139 ≠ gb144)); have n6_ := Aside0.mk ((by rw [hg]; exact Nat.ne_of_gt (blk_lt (g := gb139) (o := .cells #[.slice (some ad140) l0_0.length c0_0, .slice A0_1 l0_1.length c0_1, .slice A0_2 l0_2.length c0_2, .slice A0_3 l0_3.length c0_3, .slice A0_4 l0_4.length c0_4] 27 (0, 0)) (by (with_reducible repeat (first | refine blk_drewN ?_ _ | refine blk_drew ?_ | refine blk_alloc ?_ _)); exact BK139.out)) : gb144 ≠ gb139)); clear BK139; clear HB; have BK139 := n0_; have HB := n1_; have BK144 := n2_; have GW144 := n3_; have GE144 := n4_; have NB139_144 := n5_; have NB144_139 := n6_; clear n0_ n1_ n2_ n3_ n4_ n5_ n6_; clear hb hbox hg; have hnb21 := NB144_139.out; have hnc21 := NB139_144.out; have hcz22_0 : w20.cell? ⟨gb144, 0, none⟩ = some (.string (⟨#[]⟩ : ByteArray)) := (blk_cell BK144.out 0).trans rfl; have hcz22_1 : w20.cell? ⟨gb144, 1, none⟩ = some (.bool false) := (blk_cell BK144.out 1).trans rfl; have hcz22_2 : w20.cell? ⟨gb144, 2, none⟩ = some (.slice none 0 0) := (blk_cell BK144.out 2).trans rfl; have hcz22_3 : w20.cell? ⟨gb144, 3, none⟩ = some (.slice none 0 0) := (blk_cell BK144.out 3).trans rfl; have hfz22_0 := blk_frozen BK144.out 0; have hfz22_1 := blk_frozen BK144.out 1; have hfz22_2 := blk_frozen BK144.out 2; have hfz22_3 := blk_frozen BK144.out 3))
                              (try simp only [Act.put, List.setIfInBounds_toArray, List.set_cons_zero, List.set_cons_succ])
                              go_cut [65] (fun v65 wc => ∃ (kq : Nat) (x65_17 : Bool), v65 = .bool x65_17 ∧ Aside0 (quoinlaw11_small.j3 kq l1 x5_2 x6_3 x65_17 l0_0 l0_1 l0_2 l0_3 l0_4 ((rd_T35 ((rd_T74 l0_0 x5_2).f1) x6_3).f0) ((rd_T35 ((rd_T74 l0_0 x5_2).f1) x6_3).f1) ((rd_T35 ((rd_T74 l0_0 x5_2).f1) x6_3).f2) ((rd_T35 ((rd_T74 l0_0 x5_2).f1) x6_3).f3) = some r) ∧ Aside0 (kq ≤ k3) ∧ Aside0 (wc.heap[gb139]? = some (.cells #[(.slice (some ad140) l0_0.length c0_0), (.slice A0_1 l0_1.length c0_1), (.slice A0_2 l0_2.length c0_2), (.slice A0_3 l0_3.length c0_3), (.slice A0_4 l0_4.length c0_4)] 27 (0, 0))) ∧ Aside0 (wc.heap[gb144]? = some (.cells #[.string ((rd_T35 ((rd_T74 l0_0 x5_2).f1) x6_3).f0), .bool ((rd_T35 ((rd_T74 l0_0 x5_2).f1) x6_3).f1), (.slice A143_2 ((rd_T35 ((rd_T74 l0_0 x5_2).f1) x6_3).f2).length c143_2), (.slice A143_3 ((rd_T35 ((rd_T74 l0_0 x5_2).f1) x6_3).f3).length c143_3)] 35 (0, 0))) ∧ Aside0 (Below w.heap.size w wc))
                              case first =>
                                have H := HC18.out
                                clear HC18
                                by_cases c23 : (((rd_T35 ((rd_T74 l0_0 x5_2).f1) x6_3).f3).length : Int) > 30
                                · rw [if_pos c23] at H
                                  have c23b0 : decide (30 < (((rd_T35 ((rd_T74 l0_0 x5_2).f1) x6_3).f3).length : Int)) = true := decide_eq_true c23
                                  have c23b1 : decide (30 < ((rd_T35 ((rd_T74 l0_0 x5_2).f1) x6_3).f3).length) = true := decide_eq_true (by omega)
                                  clear c23
                                  (first | rw [c23b0] | (simp only [i64_w, i32_w]; rw [c23b0]) | skip)
                                  have H' := Aside0.mk H
                                  clear H
                                  have hnb24 := NB144_139.out
                                  have hnc24 := NB139_144.out
                                  have hcz25_0 : w20.cell? ⟨gb144, 0, none⟩ = some (.string (⟨#[]⟩ : ByteArray)) := (blk_cell BK144.out 0).trans rfl
                                  have hcz25_1 : w20.cell? ⟨gb144, 1, none⟩ = some (.bool false) := (blk_cell BK144.out 1).trans rfl
                                  have hcz25_2 : w20.cell? ⟨gb144, 2, none⟩ = some (.slice none 0 0) := (blk_cell BK144.out 2).trans rfl
                                  have hcz25_3 : w20.cell? ⟨gb144, 3, none⟩ = some (.slice none 0 0) := (blk_cell BK144.out 3).trans rfl
                                  have hfz25_0 := blk_frozen BK144.out 0
                                  have hfz25_1 := blk_frozen BK144.out 1
                                  have hfz25_2 := blk_frozen BK144.out 2
                                  have hfz25_3 := blk_frozen BK144.out 3
                                  go_wp2
                                  go_meet
                                  case rel => exact ⟨_, (true), (by first | rfl | (simp; done) | (simp [*]; done)), H', ⟨by have := HJ2.out; have := HK2.out; have := HK3.out; first | omega | exact Nat.le_refl _⟩, ⟨by (with_reducible repeat (first | refine blk_drewN ?_ _ | refine blk_drew ?_ | refine blk_alloc ?_ _)); refine blk_far ?_ NB139_144.out _; (with_reducible repeat (first | refine blk_drewN ?_ _ | refine blk_drew ?_ | refine blk_alloc ?_ _)); refine blk_far ?_ NB139_144.out _; (with_reducible repeat (first | refine blk_drewN ?_ _ | refine blk_drew ?_ | refine blk_alloc ?_ _)); refine blk_far ?_ NB139_144.out _; (with_reducible repeat (first | refine blk_drewN ?_ _ | refine blk_drew ?_ | refine blk_alloc ?_ _)); refine blk_far ?_ NB139_144.out _; (with_reducible repeat (first | refine blk_drewN ?_ _ | refine blk_drew ?_ | refine blk_alloc ?_ _)); exact BK139.out⟩, ⟨by (with_reducible repeat (first | refine blk_drewN ?_ _ | refine blk_drew ?_ | refine blk_alloc ?_ _)); refine blk_put (cs := #[.string ((rd_T35 ((rd_T74 l0_0 x5_2).f1) x6_3).f0), .bool ((rd_T35 ((rd_T74 l0_0 x5_2).f1) x6_3).f1), .slice A143_2 ((rd_T35 ((rd_T74 l0_0 x5_2).f1) x6_3).f2).length c143_2, .slice none 0 0]) ?_ 3 _ rfl; (with_reducible repeat (first | refine blk_drewN ?_ _ | refine blk_drew ?_ | refine blk_alloc ?_ _)); refine blk_put (cs := #[.string ((rd_T35 ((rd_T74 l0_0 x5_2).f1) x6_3).f0), .bool ((rd_T35 ((rd_T74 l0_0 x5_2).f1) x6_3).f1), .slice none 0 0, .slice none 0 0]) ?_ 2 _ rfl; (with_reducible repeat (first | refine blk_drewN ?_ _ | refine blk_drew ?_ | refine blk_alloc ?_ _)); refine blk_put (cs := #[.string ((rd_T35 ((rd_T74 l0_0 x5_2).f1) x6_3).f0), .bool false, .slice none 0 0, .slice none 0 0]) ?_ 1 _ rfl; (with_reducible repeat (first | refine blk_drewN ?_ _ | refine blk_drew ?_ | refine blk_alloc ?_ _)); refine blk_put (cs := #[.string (⟨#[]⟩ : ByteArray), .bool false, .slice none 0 0, .slice none 0 0]) ?_ 0 _ rfl; (with_reducible repeat (first | refine blk_drewN ?_ _ | refine blk_drew ?_ | refine blk_alloc ?_ _)); exact BK144.out⟩, ⟨by repeat (first | (with_reducible first | exact HB.out | apply below_alloc | apply pw_below_drewN | apply below_drew1 | refine below_set ?_ GE139.out | refine below_set ?_ GE144.out) | exact HB.out)⟩⟩
                                · rw [if_neg c23] at H
                                  have c23b0 : decide (30 < (((rd_T35 ((rd_T74 l0_0 x5_2).f1) x6_3).f3).length : Int)) = false := decide_eq_false c23
                                  have c23b1 : decide (30 < ((rd_T35 ((rd_T74 l0_0 x5_2).f1) x6_3).f3).length) = false := decide_eq_false (by omega)
                                  clear c23
                                  (first | rw [c23b0] | (simp only [i64_w, i32_w]; rw [c23b0]) | skip)
                                  have H' := Aside0.mk H
                                  clear H
                                  have hnb26 := NB144_139.out
                                  have hnc26 := NB139_144.out
                                  have hcz27_0 : w20.cell? ⟨gb144, 0, none⟩ = some (.string (⟨#[]⟩ : ByteArray)) := (blk_cell BK144.out 0).trans rfl
                                  have hcz27_1 : w20.cell? ⟨gb144, 1, none⟩ = some (.bool false) := (blk_cell BK144.out 1).trans rfl
                                  have hcz27_2 : w20.cell? ⟨gb144, 2, none⟩ = some (.slice none 0 0) := (blk_cell BK144.out 2).trans rfl
                                  have hcz27_3 : w20.cell? ⟨gb144, 3, none⟩ = some (.slice none 0 0) := (blk_cell BK144.out 3).trans rfl
                                  have hfz27_0 := blk_frozen BK144.out 0
                                  have hfz27_1 := blk_frozen BK144.out 1
                                  have hfz27_2 := blk_frozen BK144.out 2
                                  have hfz27_3 := blk_frozen BK144.out 3
                                  go_wp2
                                  go_meet
                                  case rel => exact ⟨_, (decide ((((rd_T35 ((rd_T74 l0_0 x5_2).f1) x6_3).f2).length : Int) > 30)), (by first | rfl | (simp; done) | (simp [*]; done)), H', ⟨by have := HJ2.out; have := HK2.out; have := HK3.out; first | omega | exact Nat.le_refl _⟩, ⟨by (with_reducible repeat (first | refine blk_drewN ?_ _ | refine blk_drew ?_ | refine blk_alloc ?_ _)); refine blk_far ?_ NB139_144.out _; (with_reducible repeat (first | refine blk_drewN ?_ _ | refine blk_drew ?_ | refine blk_alloc ?_ _)); refine blk_far ?_ NB139_144.out _; (with_reducible repeat (first | refine blk_drewN ?_ _ | refine blk_drew ?_ | refine blk_alloc ?_ _)); refine blk_far ?_ NB139_144.out _; (with_reducible repeat (first | refine blk_drewN ?_ _ | refine blk_drew ?_ | refine blk_alloc ?_ _)); refine blk_far ?_ NB139_144.out _; (with_reducible repeat (first | refine blk_drewN ?_ _ | refine blk_drew ?_ | refine blk_alloc ?_ _)); exact BK139.out⟩, ⟨by (with_reducible repeat (first | refine blk_drewN ?_ _ | refine blk_drew ?_ | refine blk_alloc ?_ _)); refine blk_put (cs := #[.string ((rd_T35 ((rd_T74 l0_0 x5_2).f1) x6_3).f0), .bool ((rd_T35 ((rd_T74 l0_0 x5_2).f1) x6_3).f1), .slice A143_2 ((rd_T35 ((rd_T74 l0_0 x5_2).f1) x6_3).f2).length c143_2, .slice none 0 0]) ?_ 3 _ rfl; (with_reducible repeat (first | refine blk_drewN ?_ _ | refine blk_drew ?_ | refine blk_alloc ?_ _)); refine blk_put (cs := #[.string ((rd_T35 ((rd_T74 l0_0 x5_2).f1) x6_3).f0), .bool ((rd_T35 ((rd_T74 l0_0 x5_2).f1) x6_3).f1), .slice none 0 0, .slice none 0 0]) ?_ 2 _ rfl; (with_reducible repeat (first | refine blk_drewN ?_ _ | refine blk_drew ?_ | refine blk_alloc ?_ _)); refine blk_put (cs := #[.string ((rd_T35 ((rd_T74 l0_0 x5_2).f1) x6_3).f0), .bool false, .slice none 0 0, .slice none 0 0]) ?_ 1 _ rfl; (with_reducible repeat (first | refine blk_drewN ?_ _ | refine blk_drew ?_ | refine blk_alloc ?_ _)); refine blk_put (cs := #[.string (⟨#[]⟩ : ByteArray), .bool false, .slice none 0 0, .slice none 0 0]) ?_ 0 _ rfl; (with_reducible repeat (first | refine blk_drewN ?_ _ | refine blk_drew ?_ | refine blk_alloc ?_ _)); exact BK144.out⟩, ⟨by repeat (first | (with_reducible first | exact HB.out | apply below_alloc | apply pw_below_drewN | apply below_drew1 | refine below_set ?_ GE139.out | refine below_set ?_ GE144.out) | exact HB.out)⟩⟩
                              case rest =>
                                clear HC18
                                try clear c1
                                try clear p1
                                try clear q1
                                try clear hx1
                                try clear c2
                                try clear p2
                                try clear c5
                                try clear c5b0
                                try clear c5b1
                                try clear c8
                                try clear c9
                                try clear c9b0
                                try clear c10
                                try clear c10b0
                                try clear c11
                                try clear c11b0
                                try clear c11b1
                                try clear c14
                                try clear c14b0
                                try clear p14
                                try clear q14
                                try clear hx14
                                try clear c15
                                try clear c15b0
                                try clear c16
                                try clear c16b0
                                try clear c17
                                try clear c17b0
                                try clear c21
                                try clear c23
                                try clear c23b0
                                try clear c23b1
                                try clear c24
                                try clear c26
                                try clear hcz12_0
                                try clear hcz12_1
                                try clear hcz12_2
                                try clear hcz12_3
                                try clear hcz12_4
                                try clear hcz13_0
                                try clear hcz13_1
                                try clear hcz13_2
                                try clear hcz13_3
                                try clear hcz13_4
                                try clear hcz19_0
                                try clear hcz19_1
                                try clear hcz19_2
                                try clear hcz19_3
                                try clear hcz19_4
                                try clear hcz22_0
                                try clear hcz22_1
                                try clear hcz22_2
                                try clear hcz22_3
                                try clear hcz25_0
                                try clear hcz25_1
                                try clear hcz25_2
                                try clear hcz25_3
                                try clear hcz27_0
                                try clear hcz27_1
                                try clear hcz27_2
                                try clear hcz27_3
                                try clear hcz6_0
                                try clear hcz6_1
                                try clear hcz6_2
                                try clear hcz6_3
                                try clear hcz6_4
                                try clear hcz7_0
                                try clear hcz7_1
                                try clear hcz7_2
                                try clear hcz7_3
                                try clear hcz7_4
                                try clear hfz12_0
                                try clear hfz12_1
                                try clear hfz12_2
                                try clear hfz12_3
                                try clear hfz12_4
                                try clear hfz13_0
                                try clear hfz13_1
                                try clear hfz13_2
                                try clear hfz13_3
                                try clear hfz13_4
                                try clear hfz19_0
                                try clear hfz19_1
                                try clear hfz19_2
                                try clear hfz19_3
                                try clear hfz19_4
                                try clear hfz22_0
                                try clear hfz22_1
                                try clear hfz22_2
                                try clear hfz22_3
                                try clear hfz25_0
                                try clear hfz25_1
                                try clear hfz25_2
                                try clear hfz25_3
                                try clear hfz27_0
                                try clear hfz27_1
                                try clear hfz27_2
                                try clear hfz27_3
                                try clear hfz6_0
                                try clear hfz6_1
                                try clear hfz6_2
                                try clear hfz6_3
                                try clear hfz6_4
                                try clear hfz7_0
                                try clear hfz7_1
                                try clear hfz7_2
                                try clear hfz7_3
                                try clear hfz7_4
                                try clear hx140_0
                                try clear hx140_1
                                try clear hx140_2
                                try clear hx141_0
                                try clear hx141_1
                                try clear hx141_2
                                try clear hx142_0
                                try clear hx142_1
                                try clear hx142_2
                                try clear hx143_0
                                try clear hx143_1
                                try clear hx143_2
                                try clear hx143_3
                                try clear p1
                                try clear p140
                                try clear p141
                                try clear p142
                                try clear p143
                                try clear p2
                                try clear q1
                                try clear q140
                                try clear q141
                                try clear q142
                                try clear q143
                                obtain ⟨kq, x65_17, rfl, HA, HJ17, BK139, BK144, HB⟩ := hcut
                                cases kq with
                                | zero => exact absurd HA.out (by simp [quoinlaw11_small.j3])
                                | succ kj17 =>
                                  have H := HA.out
                                  clear HA
                                  simp only [quoinlaw11_small.j3] at H
                                  by_cases c28 : x65_17 = true
                                  · subst c28
                                    have H1 : (some false) = some r := by rw [if_pos rfl] at H; exact H
                                    clear H
                                    have H := H1
                                    clear H1
                                    obtain rfl := Option.some.inj H
                                    go_wp2
                                    go_ret
                                    exact ⟨by first | rfl | (simp [errW_none, errW_some] <;> rfl) | (simp [*, errW_none, errW_some] <;> rfl), by repeat (first | (with_reducible first | exact HB.out | apply below_alloc | apply pw_below_drewN | apply below_drew1 | refine below_set ?_ GE139.out | refine below_set ?_ GE144.out) | exact HB.out)⟩
                                  · replace c28 := Bool.eq_false_iff.mpr c28
                                    subst c28
                                    have H1 : (quoinlaw11_small.l2 kj17 l1 x5_2 x6_3 0 l0_0 l0_1 l0_2 l0_3 l0_4 ((rd_T35 ((rd_T74 l0_0 x5_2).f1) x6_3).f0) ((rd_T35 ((rd_T74 l0_0 x5_2).f1) x6_3).f1) ((rd_T35 ((rd_T74 l0_0 x5_2).f1) x6_3).f2) ((rd_T35 ((rd_T74 l0_0 x5_2).f1) x6_3).f3)) = some r := by rw [if_neg (show ¬ (false = true) by decide)] at H; exact H
                                    clear H
                                    have H := H1
                                    clear H1
                                    have H' := Aside0.mk H
                                    clear H
                                    go_wp2
                                    go_loopg [8] kj17 (fun kq v8 w' => ∃ (x8_5 : Int), v8 = .int .i64 x8_5 ∧ Aside0 (quoinlaw11_small.l2 kq l1 x5_2 x6_3 x8_5 l0_0 l0_1 l0_2 l0_3 l0_4 ((rd_T35 ((rd_T74 l0_0 x5_2).f1) x6_3).f0) ((rd_T35 ((rd_T74 l0_0 x5_2).f1) x6_3).f1) ((rd_T35 ((rd_T74 l0_0 x5_2).f1) x6_3).f2) ((rd_T35 ((rd_T74 l0_0 x5_2).f1) x6_3).f3) = some r) ∧ Aside0 (kq ≤ kj17) ∧ Aside0 (w'.heap[gb139]? = some (.cells #[(.slice (some ad140) l0_0.length c0_0), (.slice A0_1 l0_1.length c0_1), (.slice A0_2 l0_2.length c0_2), (.slice A0_3 l0_3.length c0_3), (.slice A0_4 l0_4.length c0_4)] 27 (0, 0))) ∧ Aside0 (w'.heap[gb144]? = some (.cells #[.string ((rd_T35 ((rd_T74 l0_0 x5_2).f1) x6_3).f0), .bool ((rd_T35 ((rd_T74 l0_0 x5_2).f1) x6_3).f1), (.slice A143_2 ((rd_T35 ((rd_T74 l0_0 x5_2).f1) x6_3).f2).length c143_2), (.slice A143_3 ((rd_T35 ((rd_T74 l0_0 x5_2).f1) x6_3).f3).length c143_3)] 35 (0, 0))) ∧ Aside0 (Below w.heap.size w w'))
                                    case atStart => exact ⟨(0), (by first | rfl | (simp; done) | (simp [*]; done)), H', ⟨Nat.le_refl _⟩, ⟨by (with_reducible repeat (first | refine blk_drewN ?_ _ | refine blk_drew ?_ | refine blk_alloc ?_ _)); exact BK139.out⟩, ⟨by (with_reducible repeat (first | refine blk_drewN ?_ _ | refine blk_drew ?_ | refine blk_alloc ?_ _)); exact BK144.out⟩, ⟨by repeat (first | (with_reducible first | exact HB.out | apply below_alloc | apply pw_below_drewN | apply below_drew1 | refine below_set ?_ GE139.out | refine below_set ?_ GE144.out) | exact HB.out)⟩⟩
                                    case round =>
                                      clear H'
                                      try clear c1
                                      try clear p1
                                      try clear q1
                                      try clear hx1
                                      try clear c2
                                      try clear p2
                                      try clear c5
                                      try clear c5b0
                                      try clear c5b1
                                      try clear c8
                                      try clear c9
                                      try clear c9b0
                                      try clear c10
                                      try clear c10b0
                                      try clear c11
                                      try clear c11b0
                                      try clear c11b1
                                      try clear c14
                                      try clear c14b0
                                      try clear p14
                                      try clear q14
                                      try clear hx14
                                      try clear c15
                                      try clear c15b0
                                      try clear c16
                                      try clear c16b0
                                      try clear c17
                                      try clear c17b0
                                      try clear c21
                                      try clear c23
                                      try clear c23b0
                                      try clear c23b1
                                      try clear c24
                                      try clear c26
                                      try clear c28
                                      try clear hcz12_0
                                      try clear hcz12_1
                                      try clear hcz12_2
                                      try clear hcz12_3
                                      try clear hcz12_4
                                      try clear hcz13_0
                                      try clear hcz13_1
                                      try clear hcz13_2
                                      try clear hcz13_3
                                      try clear hcz13_4
                                      try clear hcz19_0
                                      try clear hcz19_1
                                      try clear hcz19_2
                                      try clear hcz19_3
                                      try clear hcz19_4
                                      try clear hcz22_0
                                      try clear hcz22_1
                                      try clear hcz22_2
                                      try clear hcz22_3
                                      try clear hcz25_0
                                      try clear hcz25_1
                                      try clear hcz25_2
                                      try clear hcz25_3
                                      try clear hcz27_0
                                      try clear hcz27_1
                                      try clear hcz27_2
                                      try clear hcz27_3
                                      try clear hcz6_0
                                      try clear hcz6_1
                                      try clear hcz6_2
                                      try clear hcz6_3
                                      try clear hcz6_4
                                      try clear hcz7_0
                                      try clear hcz7_1
                                      try clear hcz7_2
                                      try clear hcz7_3
                                      try clear hcz7_4
                                      try clear hfz12_0
                                      try clear hfz12_1
                                      try clear hfz12_2
                                      try clear hfz12_3
                                      try clear hfz12_4
                                      try clear hfz13_0
                                      try clear hfz13_1
                                      try clear hfz13_2
                                      try clear hfz13_3
                                      try clear hfz13_4
                                      try clear hfz19_0
                                      try clear hfz19_1
                                      try clear hfz19_2
                                      try clear hfz19_3
                                      try clear hfz19_4
                                      try clear hfz22_0
                                      try clear hfz22_1
                                      try clear hfz22_2
                                      try clear hfz22_3
                                      try clear hfz25_0
                                      try clear hfz25_1
                                      try clear hfz25_2
                                      try clear hfz25_3
                                      try clear hfz27_0
                                      try clear hfz27_1
                                      try clear hfz27_2
                                      try clear hfz27_3
                                      try clear hfz6_0
                                      try clear hfz6_1
                                      try clear hfz6_2
                                      try clear hfz6_3
                                      try clear hfz6_4
                                      try clear hfz7_0
                                      try clear hfz7_1
                                      try clear hfz7_2
                                      try clear hfz7_3
                                      try clear hfz7_4
                                      try clear hx140_0
                                      try clear hx140_1
                                      try clear hx140_2
                                      try clear hx141_0
                                      try clear hx141_1
                                      try clear hx141_2
                                      try clear hx142_0
                                      try clear hx142_1
                                      try clear hx142_2
                                      try clear hx143_0
                                      try clear hx143_1
                                      try clear hx143_2
                                      try clear hx143_3
                                      try clear p1
                                      try clear p14
                                      try clear p140
                                      try clear p141
                                      try clear p142
                                      try clear p143
                                      try clear p2
                                      try clear q1
                                      try clear q14
                                      try clear q140
                                      try clear q141
                                      try clear q142
                                      try clear q143
                                      obtain ⟨x8_5, rfl, HA, HK5, BK139, BK144, HB⟩ := hrel
                                      cases gk with
                                      | zero => exact absurd HA.out (by simp [quoinlaw11_small.l2])
                                      | succ k5 =>
                                        have H := HA.out
                                        clear HA
                                        simp only [quoinlaw11_small.l2] at H
                                        by_cases c29 : x8_5 < (((rd_T35 ((rd_T74 l0_0 x5_2).f1) x6_3).f3).length : Int)
                                        · rw [if_pos c29] at H
                                          have c29b0 : decide (x8_5 < (((rd_T35 ((rd_T74 l0_0 x5_2).f1) x6_3).f3).length : Int)) = true := decide_eq_true c29
                                          clear c29
                                          have HC30 := Aside0.mk H
                                          clear H
                                          have hnb31 := NB144_139.out
                                          have hnc31 := NB139_144.out
                                          have hcz32_0 : wr.cell? ⟨gb144, 0, none⟩ = some (.string ((rd_T35 ((rd_T74 l0_0 x5_2).f1) x6_3).f0)) := (blk_cell BK144.out 0).trans rfl
                                          have hcz32_1 : wr.cell? ⟨gb144, 1, none⟩ = some (.bool ((rd_T35 ((rd_T74 l0_0 x5_2).f1) x6_3).f1)) := (blk_cell BK144.out 1).trans rfl
                                          have hcz32_2 : wr.cell? ⟨gb144, 2, none⟩ = some (.slice A143_2 ((rd_T35 ((rd_T74 l0_0 x5_2).f1) x6_3).f2).length c143_2) := (blk_cell BK144.out 2).trans rfl
                                          have hcz32_3 : wr.cell? ⟨gb144, 3, none⟩ = some (.slice A143_3 ((rd_T35 ((rd_T74 l0_0 x5_2).f1) x6_3).f3).length c143_3) := (blk_cell BK144.out 3).trans rfl
                                          have hfz32_0 := blk_frozen BK144.out 0
                                          have hfz32_1 := blk_frozen BK144.out 1
                                          have hfz32_2 := blk_frozen BK144.out 2
                                          have hfz32_3 := blk_frozen BK144.out 3
                                          go_upto_region 17 with (fail)
                                          go_cut [90] (fun v90 wc => ∃ (kq : Nat) (x90_29 : Bool), v90 = .bool x90_29 ∧ Aside0 (quoinlaw11_small.j5 kq l1 x5_2 x6_3 x8_5 x90_29 l0_0 l0_1 l0_2 l0_3 l0_4 ((rd_T35 ((rd_T74 l0_0 x5_2).f1) x6_3).f0) ((rd_T35 ((rd_T74 l0_0 x5_2).f1) x6_3).f1) ((rd_T35 ((rd_T74 l0_0 x5_2).f1) x6_3).f2) ((rd_T35 ((rd_T74 l0_0 x5_2).f1) x6_3).f3) = some r) ∧ Aside0 (kq ≤ k5) ∧ Aside0 (wc.heap[gb139]? = some (.cells #[(.slice (some ad140) l0_0.length c0_0), (.slice A0_1 l0_1.length c0_1), (.slice A0_2 l0_2.length c0_2), (.slice A0_3 l0_3.length c0_3), (.slice A0_4 l0_4.length c0_4)] 27 (0, 0))) ∧ Aside0 (wc.heap[gb144]? = some (.cells #[.string ((rd_T35 ((rd_T74 l0_0 x5_2).f1) x6_3).f0), .bool ((rd_T35 ((rd_T74 l0_0 x5_2).f1) x6_3).f1), (.slice A143_2 ((rd_T35 ((rd_T74 l0_0 x5_2).f1) x6_3).f2).length c143_2), (.slice A143_3 ((rd_T35 ((rd_T74 l0_0 x5_2).f1) x6_3).f3).length c143_3)] 35 (0, 0))) ∧ Aside0 (Below w.heap.size w wc))
                                          case first =>
                                            have H := HC30.out
                                            clear HC30
                                            by_cases c33 : 0 ≤ x8_5
                                            · rw [if_pos c33] at H
                                              have c33b0 : decide (0 ≤ x8_5) = true := decide_eq_true c33
                                              clear c33
                                              (first | rw [c33b0] | (simp only [i64_w, i32_w]; rw [c33b0]) | skip)
                                              by_cases c34 : (((rd_T50 ((rd_T35 ((rd_T74 l0_0 x5_2).f1) x6_3).f3) x8_5).f1).length : Int) > 20
                                              · rw [if_pos c34] at H
                                                have c34b0 : decide (20 < (((rd_T50 ((rd_T35 ((rd_T74 l0_0 x5_2).f1) x6_3).f3) x8_5).f1).length : Int)) = true := decide_eq_true c34
                                                have c34b1 : decide (20 < ((rd_T50 ((rd_T35 ((rd_T74 l0_0 x5_2).f1) x6_3).f3) x8_5).f1).length) = true := decide_eq_true (by omega)
                                                clear c34
                                                have H' := Aside0.mk H
                                                clear H
                                                have hnb35 := NB144_139.out
                                                have hnc35 := NB139_144.out
                                                have hcz36_0 : wr.cell? ⟨gb144, 0, none⟩ = some (.string ((rd_T35 ((rd_T74 l0_0 x5_2).f1) x6_3).f0)) := (blk_cell BK144.out 0).trans rfl
                                                have hcz36_1 : wr.cell? ⟨gb144, 1, none⟩ = some (.bool ((rd_T35 ((rd_T74 l0_0 x5_2).f1) x6_3).f1)) := (blk_cell BK144.out 1).trans rfl
                                                have hcz36_2 : wr.cell? ⟨gb144, 2, none⟩ = some (.slice A143_2 ((rd_T35 ((rd_T74 l0_0 x5_2).f1) x6_3).f2).length c143_2) := (blk_cell BK144.out 2).trans rfl
                                                have hcz36_3 : wr.cell? ⟨gb144, 3, none⟩ = some (.slice A143_3 ((rd_T35 ((rd_T74 l0_0 x5_2).f1) x6_3).f3).length c143_3) := (blk_cell BK144.out 3).trans rfl
                                                have hfz36_0 := blk_frozen BK144.out 0
                                                have hfz36_1 := blk_frozen BK144.out 1
                                                have hfz36_2 := blk_frozen BK144.out 2
                                                have hfz36_3 := blk_frozen BK144.out 3
                                                have p145 : 0 ≤ (x8_5 : Int) := of_decide_eq_true (by first | (with_reducible assumption) | assumption)
                                                have q145 : x8_5 < (((rd_T35 ((rd_T74 l0_0 x5_2).f1) x6_3).f3).length : Int) := of_decide_eq_true (by first | (with_reducible assumption) | assumption)
                                                obtain ⟨ad145, A145_1, c145_1, A145_6, c145_6, e145, hx145_0, hx145_1, hx145_2, hx145_3, hx145_4, hx145_5, hx145_6, hl145_1, hi145_1, hl145_6, hi145_6⟩ := at_T50 HR143_3.out x8_5 p145 q145
                                                cases e145
                                                replace hx145_0 := (HB.out.cell (World.block_lt_of_cell? w _ hx145_0)).trans hx145_0
                                                replace hx145_1 := (HB.out.cell (World.block_lt_of_cell? w _ hx145_1)).trans hx145_1
                                                replace hx145_2 := (HB.out.cell (World.block_lt_of_cell? w _ hx145_2)).trans hx145_2
                                                replace hx145_3 := (HB.out.cell (World.block_lt_of_cell? w _ hx145_3)).trans hx145_3
                                                replace hx145_4 := (HB.out.cell (World.block_lt_of_cell? w _ hx145_4)).trans hx145_4
                                                replace hx145_5 := (HB.out.cell (World.block_lt_of_cell? w _ hx145_5)).trans hx145_5
                                                replace hx145_6 := (HB.out.cell (World.block_lt_of_cell? w _ hx145_6)).trans hx145_6
                                                have HR145_1 := Aside0.mk hi145_1
                                                have HC145_1 := Aside0.mk hl145_1
                                                clear hi145_1 hl145_1
                                                have HR145_6 := Aside0.mk hi145_6
                                                have HC145_6 := Aside0.mk hl145_6
                                                clear hi145_6 hl145_6
                                                replace p145 := eq_true p145
                                                replace q145 := eq_true q145
                                                go_wp2
                                                go_meet
                                                case rel => exact ⟨_, (true), (by first | rfl | (simp; done) | (simp [*]; done)), H', ⟨by have := HJ2.out; have := HK2.out; have := HK3.out; have := HJ17.out; have := HK5.out; first | omega | exact Nat.le_refl _⟩, ⟨by (with_reducible repeat (first | refine blk_drewN ?_ _ | refine blk_drew ?_ | refine blk_alloc ?_ _)); exact BK139.out⟩, ⟨by (with_reducible repeat (first | refine blk_drewN ?_ _ | refine blk_drew ?_ | refine blk_alloc ?_ _)); exact BK144.out⟩, ⟨by repeat (first | (with_reducible first | exact HB.out | apply below_alloc | apply pw_below_drewN | apply below_drew1 | refine below_set ?_ GE139.out | refine below_set ?_ GE144.out) | exact HB.out)⟩⟩
                                              · rw [if_neg c34] at H
                                                have c34b0 : decide (20 < (((rd_T50 ((rd_T35 ((rd_T74 l0_0 x5_2).f1) x6_3).f3) x8_5).f1).length : Int)) = false := decide_eq_false c34
                                                have c34b1 : decide (20 < ((rd_T50 ((rd_T35 ((rd_T74 l0_0 x5_2).f1) x6_3).f3) x8_5).f1).length) = false := decide_eq_false (by omega)
                                                clear c34
                                                replace H := Option.bind_eq_some_iff.mp H
                                                obtain ⟨t147, A370, H⟩ := H
                                                replace H : (quoinlaw11_small.j5 k5 l1 x5_2 x6_3 x8_5 (decide (t147 > 60)) l0_0 l0_1 l0_2 l0_3 l0_4 ((rd_T35 ((rd_T74 l0_0 x5_2).f1) x6_3).f0) ((rd_T35 ((rd_T74 l0_0 x5_2).f1) x6_3).f1) ((rd_T35 ((rd_T74 l0_0 x5_2).f1) x6_3).f2) ((rd_T35 ((rd_T74 l0_0 x5_2).f1) x6_3).f3)) = some r := H
                                                have A37 := Aside0.mk A370
                                                clear A370
                                                have H' := Aside0.mk H
                                                clear H
                                                have hnb38 := NB144_139.out
                                                have hnc38 := NB139_144.out
                                                have hcz39_0 : wr.cell? ⟨gb144, 0, none⟩ = some (.string ((rd_T35 ((rd_T74 l0_0 x5_2).f1) x6_3).f0)) := (blk_cell BK144.out 0).trans rfl
                                                have hcz39_1 : wr.cell? ⟨gb144, 1, none⟩ = some (.bool ((rd_T35 ((rd_T74 l0_0 x5_2).f1) x6_3).f1)) := (blk_cell BK144.out 1).trans rfl
                                                have hcz39_2 : wr.cell? ⟨gb144, 2, none⟩ = some (.slice A143_2 ((rd_T35 ((rd_T74 l0_0 x5_2).f1) x6_3).f2).length c143_2) := (blk_cell BK144.out 2).trans rfl
                                                have hcz39_3 : wr.cell? ⟨gb144, 3, none⟩ = some (.slice A143_3 ((rd_T35 ((rd_T74 l0_0 x5_2).f1) x6_3).f3).length c143_3) := (blk_cell BK144.out 3).trans rfl
                                                have hfz39_0 := blk_frozen BK144.out 0
                                                have hfz39_1 := blk_frozen BK144.out 1
                                                have hfz39_2 := blk_frozen BK144.out 2
                                                have hfz39_3 := blk_frozen BK144.out 3
                                                have p145 : 0 ≤ (x8_5 : Int) := of_decide_eq_true (by first | (with_reducible assumption) | assumption)
                                                have q145 : x8_5 < (((rd_T35 ((rd_T74 l0_0 x5_2).f1) x6_3).f3).length : Int) := of_decide_eq_true (by first | (with_reducible assumption) | assumption)
                                                obtain ⟨ad145, A145_1, c145_1, A145_6, c145_6, e145, hx145_0, hx145_1, hx145_2, hx145_3, hx145_4, hx145_5, hx145_6, hl145_1, hi145_1, hl145_6, hi145_6⟩ := at_T50 HR143_3.out x8_5 p145 q145
                                                cases e145
                                                replace hx145_0 := (HB.out.cell (World.block_lt_of_cell? w _ hx145_0)).trans hx145_0
                                                replace hx145_1 := (HB.out.cell (World.block_lt_of_cell? w _ hx145_1)).trans hx145_1
                                                replace hx145_2 := (HB.out.cell (World.block_lt_of_cell? w _ hx145_2)).trans hx145_2
                                                replace hx145_3 := (HB.out.cell (World.block_lt_of_cell? w _ hx145_3)).trans hx145_3
                                                replace hx145_4 := (HB.out.cell (World.block_lt_of_cell? w _ hx145_4)).trans hx145_4
                                                replace hx145_5 := (HB.out.cell (World.block_lt_of_cell? w _ hx145_5)).trans hx145_5
                                                replace hx145_6 := (HB.out.cell (World.block_lt_of_cell? w _ hx145_6)).trans hx145_6
                                                have HR145_1 := Aside0.mk hi145_1
                                                have HC145_1 := Aside0.mk hl145_1
                                                clear hi145_1 hl145_1
                                                have HR145_6 := Aside0.mk hi145_6
                                                have HC145_6 := Aside0.mk hl145_6
                                                clear hi145_6 hl145_6
                                                replace p145 := eq_true p145
                                                replace q145 := eq_true q145
                                                have p146 : 0 ≤ (x8_5 : Int) := of_decide_eq_true (by first | (with_reducible assumption) | assumption)
                                                have q146 : x8_5 < (((rd_T35 ((rd_T74 l0_0 x5_2).f1) x6_3).f3).length : Int) := of_decide_eq_true (by first | (with_reducible assumption) | assumption)
                                                obtain ⟨ad146, A146_1, c146_1, A146_6, c146_6, e146, hx146_0, hx146_1, hx146_2, hx146_3, hx146_4, hx146_5, hx146_6, hl146_1, hi146_1, hl146_6, hi146_6⟩ := at_T50 HR143_3.out x8_5 p146 q146
                                                obtain rfl : ad145 = ad146 := (by injection e146)
                                                replace hx146_0 := (HB.out.cell (World.block_lt_of_cell? w _ hx146_0)).trans hx146_0
                                                replace hx146_1 := (HB.out.cell (World.block_lt_of_cell? w _ hx146_1)).trans hx146_1
                                                replace hx146_2 := (HB.out.cell (World.block_lt_of_cell? w _ hx146_2)).trans hx146_2
                                                replace hx146_3 := (HB.out.cell (World.block_lt_of_cell? w _ hx146_3)).trans hx146_3
                                                replace hx146_4 := (HB.out.cell (World.block_lt_of_cell? w _ hx146_4)).trans hx146_4
                                                replace hx146_5 := (HB.out.cell (World.block_lt_of_cell? w _ hx146_5)).trans hx146_5
                                                replace hx146_6 := (HB.out.cell (World.block_lt_of_cell? w _ hx146_6)).trans hx146_6
                                                have HR146_1 := Aside0.mk hi146_1
                                                have HC146_1 := Aside0.mk hl146_1
                                                clear hi146_1 hl146_1
                                                have HR146_6 := Aside0.mk hi146_6
                                                have HC146_6 := Aside0.mk hl146_6
                                                clear hi146_6 hl146_6
                                                replace p146 := eq_true p146
                                                replace q146 := eq_true q146
                                                have ea_ := Option.some.inj (hx145_1.symm.trans hx146_1)
                                                injection ea_ with ea_ en_ ec_
                                                subst ea_
                                                subst ec_
                                                clear en_
                                                have ea_ := Option.some.inj (hx145_6.symm.trans hx146_6)
                                                injection ea_ with ea_ en_ ec_
                                                subst ea_
                                                subst ec_
                                                clear en_
                                                go_wp2_with (first | (go_at_call 34; (with_reducible refine (quoinlaw11_parts.calls k5 ((rd_T50 ((rd_T35 ((rd_T74 l0_0 x5_2).f1) x6_3).f3) x8_5).f2.f0) ((rd_T50 ((rd_T35 ((rd_T74 l0_0 x5_2).f1) x6_3).f3) x8_5).f2.f1) ((rd_T50 ((rd_T35 ((rd_T74 l0_0 x5_2).f1) x6_3).f3) x8_5).f2.f2) ((rd_T50 ((rd_T35 ((rd_T74 l0_0 x5_2).f1) x6_3).f3) x8_5).f2.f3) _ _ ((rd_T50 ((rd_T35 ((rd_T74 l0_0 x5_2).f1) x6_3).f3) x8_5).f2.f4) 0 t147 _ ?side1 ?side2 A37.out).mono ?_); (case side1 => repeat (first | exact (Kd.C_below HR146_6.out HB.out) | (with_reducible refine Kd.C_alloc ?_ _) | (with_reducible refine Kd.C_drewN ?_ _) | (with_reducible refine Kd.C_drew ?_))); (case side2 => exact HC146_6.out); rintro e w40 ⟨rfl, hb⟩; have n0_ := Aside0.mk (blk_below (g := gb139) (o := .cells #[.slice (some ad140) l0_0.length c0_0, .slice A0_1 l0_1.length c0_1, .slice A0_2 l0_2.length c0_2, .slice A0_3 l0_3.length c0_3, .slice A0_4 l0_4.length c0_4] 27 (0, 0)) (by (with_reducible repeat (first | refine blk_drewN ?_ _ | refine blk_drew ?_ | refine blk_alloc ?_ _)); exact BK139.out) hb); have n1_ := Aside0.mk (blk_below (g := gb144) (o := .cells #[.string ((rd_T35 ((rd_T74 l0_0 x5_2).f1) x6_3).f0), .bool ((rd_T35 ((rd_T74 l0_0 x5_2).f1) x6_3).f1), .slice A143_2 ((rd_T35 ((rd_T74 l0_0 x5_2).f1) x6_3).f2).length c143_2, .slice (some ad145) ((rd_T35 ((rd_T74 l0_0 x5_2).f1) x6_3).f3).length c143_3] 35 (0, 0)) (by (with_reducible repeat (first | refine blk_drewN ?_ _ | refine blk_drew ?_ | refine blk_alloc ?_ _)); exact BK144.out) hb); have n2_ := Aside0.mk (below_step (by repeat (first | (with_reducible first | exact HB.out | apply below_alloc | apply pw_below_drewN | apply below_drew1 | refine below_set ?_ GE139.out | refine below_set ?_ GE144.out) | exact HB.out)) hb); clear BK139; clear BK144; clear HB; have BK139 := n0_; have BK144 := n1_; have HB := n2_; clear n0_ n1_ n2_; (try clear hb); (try clear hb2); (try clear hk); (try clear hi)))
                                                go_meet
                                                case rel => exact ⟨_, (decide (t147 > 60)), (by first | rfl | (simp; done) | (simp [*]; done)), H', ⟨by have := HJ2.out; have := HK2.out; have := HK3.out; have := HJ17.out; have := HK5.out; first | omega | exact Nat.le_refl _⟩, ⟨by (with_reducible repeat (first | refine blk_drewN ?_ _ | refine blk_drew ?_ | refine blk_alloc ?_ _)); exact BK139.out⟩, ⟨by (with_reducible repeat (first | refine blk_drewN ?_ _ | refine blk_drew ?_ | refine blk_alloc ?_ _)); exact BK144.out⟩, ⟨by repeat (first | (with_reducible first | exact HB.out | apply below_alloc | apply pw_below_drewN | apply below_drew1 | refine below_set ?_ GE139.out | refine below_set ?_ GE144.out) | exact HB.out)⟩⟩
                                            · rw [if_neg c33] at H
                                              exact absurd H (by simp)
                                          case rest =>
                                            clear HC30
                                            try clear c1
                                            try clear p1
                                            try clear q1
                                            try clear hx1
                                            try clear c2
                                            try clear p2
                                            try clear c3
                                            try clear c5
                                            try clear c5b0
                                            try clear c5b1
                                            try clear c8
                                            try clear c9
                                            try clear c9b0
                                            try clear c10
                                            try clear c10b0
                                            try clear c11
                                            try clear c11b0
                                            try clear c11b1
                                            try clear c14
                                            try clear c14b0
                                            try clear p14
                                            try clear q14
                                            try clear hx14
                                            try clear c15
                                            try clear c15b0
                                            try clear c16
                                            try clear c16b0
                                            try clear c17
                                            try clear c17b0
                                            try clear c21
                                            try clear c23
                                            try clear c23b0
                                            try clear c23b1
                                            try clear c24
                                            try clear c26
                                            try clear c28
                                            try clear c29
                                            try clear c29b0
                                            try clear c31
                                            try clear c33
                                            try clear c33b0
                                            try clear c34
                                            try clear c34b0
                                            try clear c34b1
                                            try clear c35
                                            try clear c38
                                            try clear hcz12_0
                                            try clear hcz12_1
                                            try clear hcz12_2
                                            try clear hcz12_3
                                            try clear hcz12_4
                                            try clear hcz13_0
                                            try clear hcz13_1
                                            try clear hcz13_2
                                            try clear hcz13_3
                                            try clear hcz13_4
                                            try clear hcz19_0
                                            try clear hcz19_1
                                            try clear hcz19_2
                                            try clear hcz19_3
                                            try clear hcz19_4
                                            try clear hcz22_0
                                            try clear hcz22_1
                                            try clear hcz22_2
                                            try clear hcz22_3
                                            try clear hcz25_0
                                            try clear hcz25_1
                                            try clear hcz25_2
                                            try clear hcz25_3
                                            try clear hcz27_0
                                            try clear hcz27_1
                                            try clear hcz27_2
                                            try clear hcz27_3
                                            try clear hcz32_0
                                            try clear hcz32_1
                                            try clear hcz32_2
                                            try clear hcz32_3
                                            try clear hcz36_0
                                            try clear hcz36_1
                                            try clear hcz36_2
                                            try clear hcz36_3
                                            try clear hcz39_0
                                            try clear hcz39_1
                                            try clear hcz39_2
                                            try clear hcz39_3
                                            try clear hcz6_0
                                            try clear hcz6_1
                                            try clear hcz6_2
                                            try clear hcz6_3
                                            try clear hcz6_4
                                            try clear hcz7_0
                                            try clear hcz7_1
                                            try clear hcz7_2
                                            try clear hcz7_3
                                            try clear hcz7_4
                                            try clear hfz12_0
                                            try clear hfz12_1
                                            try clear hfz12_2
                                            try clear hfz12_3
                                            try clear hfz12_4
                                            try clear hfz13_0
                                            try clear hfz13_1
                                            try clear hfz13_2
                                            try clear hfz13_3
                                            try clear hfz13_4
                                            try clear hfz19_0
                                            try clear hfz19_1
                                            try clear hfz19_2
                                            try clear hfz19_3
                                            try clear hfz19_4
                                            try clear hfz22_0
                                            try clear hfz22_1
                                            try clear hfz22_2
                                            try clear hfz22_3
                                            try clear hfz25_0
                                            try clear hfz25_1
                                            try clear hfz25_2
                                            try clear hfz25_3
                                            try clear hfz27_0
                                            try clear hfz27_1
                                            try clear hfz27_2
                                            try clear hfz27_3
                                            try clear hfz32_0
                                            try clear hfz32_1
                                            try clear hfz32_2
                                            try clear hfz32_3
                                            try clear hfz36_0
                                            try clear hfz36_1
                                            try clear hfz36_2
                                            try clear hfz36_3
                                            try clear hfz39_0
                                            try clear hfz39_1
                                            try clear hfz39_2
                                            try clear hfz39_3
                                            try clear hfz6_0
                                            try clear hfz6_1
                                            try clear hfz6_2
                                            try clear hfz6_3
                                            try clear hfz6_4
                                            try clear hfz7_0
                                            try clear hfz7_1
                                            try clear hfz7_2
                                            try clear hfz7_3
                                            try clear hfz7_4
                                            try clear hx140_0
                                            try clear hx140_1
                                            try clear hx140_2
                                            try clear hx141_0
                                            try clear hx141_1
                                            try clear hx141_2
                                            try clear hx142_0
                                            try clear hx142_1
                                            try clear hx142_2
                                            try clear hx143_0
                                            try clear hx143_1
                                            try clear hx143_2
                                            try clear hx143_3
                                            try clear hx145_0
                                            try clear hx145_1
                                            try clear hx145_2
                                            try clear hx145_3
                                            try clear hx145_4
                                            try clear hx145_5
                                            try clear hx145_6
                                            try clear hx146_0
                                            try clear hx146_1
                                            try clear hx146_2
                                            try clear hx146_3
                                            try clear hx146_4
                                            try clear hx146_5
                                            try clear hx146_6
                                            try clear p1
                                            try clear p14
                                            try clear p140
                                            try clear p141
                                            try clear p142
                                            try clear p143
                                            try clear p145
                                            try clear p146
                                            try clear p2
                                            try clear q1
                                            try clear q14
                                            try clear q140
                                            try clear q141
                                            try clear q142
                                            try clear q143
                                            try clear q145
                                            try clear q146
                                            obtain ⟨kq, x90_29, rfl, HA, HJ29, BK139, BK144, HB⟩ := hcut
                                            cases kq with
                                            | zero => exact absurd HA.out (by simp [quoinlaw11_small.j5])
                                            | succ kj29 =>
                                              have H := HA.out
                                              clear HA
                                              simp only [quoinlaw11_small.j5] at H
                                              by_cases c41 : x90_29 = true
                                              · subst c41
                                                have H1 : (some false) = some r := by rw [if_pos rfl] at H; exact H
                                                clear H
                                                have H := H1
                                                clear H1
                                                obtain rfl := Option.some.inj H
                                                go_wp2
                                                go_ret
                                                exact ⟨by first | rfl | (simp [errW_none, errW_some] <;> rfl) | (simp [*, errW_none, errW_some] <;> rfl), by repeat (first | (with_reducible first | exact HB.out | apply below_alloc | apply pw_below_drewN | apply below_drew1 | refine below_set ?_ GE139.out | refine below_set ?_ GE144.out) | exact HB.out)⟩
                                              · replace c41 := Bool.eq_false_iff.mpr c41
                                                subst c41
                                                have H1 : (quoinlaw11_small.l3 kj29 l1 x5_2 x6_3 x8_5 0 l0_0 l0_1 l0_2 l0_3 l0_4 ((rd_T35 ((rd_T74 l0_0 x5_2).f1) x6_3).f0) ((rd_T35 ((rd_T74 l0_0 x5_2).f1) x6_3).f1) ((rd_T35 ((rd_T74 l0_0 x5_2).f1) x6_3).f2) ((rd_T35 ((rd_T74 l0_0 x5_2).f1) x6_3).f3)) = some r := by rw [if_neg (show ¬ (false = true) by decide)] at H; exact H
                                                clear H
                                                have H := H1
                                                clear H1
                                                have H' := Aside0.mk H
                                                clear H
                                                go_wp2
                                                go_loopg [9] kj29 (fun kq v9 w' => ∃ (x9_7 : Int), v9 = .int .i64 x9_7 ∧ Aside0 (quoinlaw11_small.l3 kq l1 x5_2 x6_3 x8_5 x9_7 l0_0 l0_1 l0_2 l0_3 l0_4 ((rd_T35 ((rd_T74 l0_0 x5_2).f1) x6_3).f0) ((rd_T35 ((rd_T74 l0_0 x5_2).f1) x6_3).f1) ((rd_T35 ((rd_T74 l0_0 x5_2).f1) x6_3).f2) ((rd_T35 ((rd_T74 l0_0 x5_2).f1) x6_3).f3) = some r) ∧ Aside0 (kq ≤ kj29) ∧ Aside0 (w'.heap[gb139]? = some (.cells #[(.slice (some ad140) l0_0.length c0_0), (.slice A0_1 l0_1.length c0_1), (.slice A0_2 l0_2.length c0_2), (.slice A0_3 l0_3.length c0_3), (.slice A0_4 l0_4.length c0_4)] 27 (0, 0))) ∧ Aside0 (w'.heap[gb144]? = some (.cells #[.string ((rd_T35 ((rd_T74 l0_0 x5_2).f1) x6_3).f0), .bool ((rd_T35 ((rd_T74 l0_0 x5_2).f1) x6_3).f1), (.slice A143_2 ((rd_T35 ((rd_T74 l0_0 x5_2).f1) x6_3).f2).length c143_2), (.slice A143_3 ((rd_T35 ((rd_T74 l0_0 x5_2).f1) x6_3).f3).length c143_3)] 35 (0, 0))) ∧ Aside0 (Below w.heap.size w w'))
                                                case atStart => exact ⟨(0), (by first | rfl | (simp; done) | (simp [*]; done)), H', ⟨Nat.le_refl _⟩, ⟨by (with_reducible repeat (first | refine blk_drewN ?_ _ | refine blk_drew ?_ | refine blk_alloc ?_ _)); exact BK139.out⟩, ⟨by (with_reducible repeat (first | refine blk_drewN ?_ _ | refine blk_drew ?_ | refine blk_alloc ?_ _)); exact BK144.out⟩, ⟨by repeat (first | (with_reducible first | exact HB.out | apply below_alloc | apply pw_below_drewN | apply below_drew1 | refine below_set ?_ GE139.out | refine below_set ?_ GE144.out) | exact HB.out)⟩⟩
                                                case round =>
                                                  clear H'
                                                  try clear c1
                                                  try clear p1
                                                  try clear q1
                                                  try clear hx1
                                                  try clear c2
                                                  try clear p2
                                                  try clear c3
                                                  try clear c4
                                                  try clear c5
                                                  try clear c5b0
                                                  try clear c5b1
                                                  try clear c8
                                                  try clear c9
                                                  try clear c9b0
                                                  try clear c10
                                                  try clear c10b0
                                                  try clear c11
                                                  try clear c11b0
                                                  try clear c11b1
                                                  try clear c14
                                                  try clear c14b0
                                                  try clear p14
                                                  try clear q14
                                                  try clear hx14
                                                  try clear c15
                                                  try clear c15b0
                                                  try clear c16
                                                  try clear c16b0
                                                  try clear c17
                                                  try clear c17b0
                                                  try clear c21
                                                  try clear c23
                                                  try clear c23b0
                                                  try clear c23b1
                                                  try clear c24
                                                  try clear c26
                                                  try clear c28
                                                  try clear c29
                                                  try clear c29b0
                                                  try clear c31
                                                  try clear c33
                                                  try clear c33b0
                                                  try clear c34
                                                  try clear c34b0
                                                  try clear c34b1
                                                  try clear c35
                                                  try clear c38
                                                  try clear c41
                                                  try clear hcz12_0
                                                  try clear hcz12_1
                                                  try clear hcz12_2
                                                  try clear hcz12_3
                                                  try clear hcz12_4
                                                  try clear hcz13_0
                                                  try clear hcz13_1
                                                  try clear hcz13_2
                                                  try clear hcz13_3
                                                  try clear hcz13_4
                                                  try clear hcz19_0
                                                  try clear hcz19_1
                                                  try clear hcz19_2
                                                  try clear hcz19_3
                                                  try clear hcz19_4
                                                  try clear hcz22_0
                                                  try clear hcz22_1
                                                  try clear hcz22_2
                                                  try clear hcz22_3
                                                  try clear hcz25_0
                                                  try clear hcz25_1
                                                  try clear hcz25_2
                                                  try clear hcz25_3
                                                  try clear hcz27_0
                                                  try clear hcz27_1
                                                  try clear hcz27_2
                                                  try clear hcz27_3
                                                  try clear hcz32_0
                                                  try clear hcz32_1
                                                  try clear hcz32_2
                                                  try clear hcz32_3
                                                  try clear hcz36_0
                                                  try clear hcz36_1
                                                  try clear hcz36_2
                                                  try clear hcz36_3
                                                  try clear hcz39_0
                                                  try clear hcz39_1
                                                  try clear hcz39_2
                                                  try clear hcz39_3
                                                  try clear hcz6_0
                                                  try clear hcz6_1
                                                  try clear hcz6_2
                                                  try clear hcz6_3
                                                  try clear hcz6_4
                                                  try clear hcz7_0
                                                  try clear hcz7_1
                                                  try clear hcz7_2
                                                  try clear hcz7_3
                                                  try clear hcz7_4
                                                  try clear hfz12_0
                                                  try clear hfz12_1
                                                  try clear hfz12_2
                                                  try clear hfz12_3
                                                  try clear hfz12_4
                                                  try clear hfz13_0
                                                  try clear hfz13_1
                                                  try clear hfz13_2
                                                  try clear hfz13_3
                                                  try clear hfz13_4
                                                  try clear hfz19_0
                                                  try clear hfz19_1
                                                  try clear hfz19_2
                                                  try clear hfz19_3
                                                  try clear hfz19_4
                                                  try clear hfz22_0
                                                  try clear hfz22_1
                                                  try clear hfz22_2
                                                  try clear hfz22_3
                                                  try clear hfz25_0
                                                  try clear hfz25_1
                                                  try clear hfz25_2
                                                  try clear hfz25_3
                                                  try clear hfz27_0
                                                  try clear hfz27_1
                                                  try clear hfz27_2
                                                  try clear hfz27_3
                                                  try clear hfz32_0
                                                  try clear hfz32_1
                                                  try clear hfz32_2
                                                  try clear hfz32_3
                                                  try clear hfz36_0
                                                  try clear hfz36_1
                                                  try clear hfz36_2
                                                  try clear hfz36_3
                                                  try clear hfz39_0
                                                  try clear hfz39_1
                                                  try clear hfz39_2
                                                  try clear hfz39_3
                                                  try clear hfz6_0
                                                  try clear hfz6_1
                                                  try clear hfz6_2
                                                  try clear hfz6_3
                                                  try clear hfz6_4
                                                  try clear hfz7_0
                                                  try clear hfz7_1
                                                  try clear hfz7_2
                                                  try clear hfz7_3
                                                  try clear hfz7_4
                                                  try clear hx140_0
                                                  try clear hx140_1
                                                  try clear hx140_2
                                                  try clear hx141_0
                                                  try clear hx141_1
                                                  try clear hx141_2
                                                  try clear hx142_0
                                                  try clear hx142_1
                                                  try clear hx142_2
                                                  try clear hx143_0
                                                  try clear hx143_1
                                                  try clear hx143_2
                                                  try clear hx143_3
                                                  try clear hx145_0
                                                  try clear hx145_1
                                                  try clear hx145_2
                                                  try clear hx145_3
                                                  try clear hx145_4
                                                  try clear hx145_5
                                                  try clear hx145_6
                                                  try clear hx146_0
                                                  try clear hx146_1
                                                  try clear hx146_2
                                                  try clear hx146_3
                                                  try clear hx146_4
                                                  try clear hx146_5
                                                  try clear hx146_6
                                                  try clear p1
                                                  try clear p14
                                                  try clear p140
                                                  try clear p141
                                                  try clear p142
                                                  try clear p143
                                                  try clear p145
                                                  try clear p146
                                                  try clear p2
                                                  try clear q1
                                                  try clear q14
                                                  try clear q140
                                                  try clear q141
                                                  try clear q142
                                                  try clear q143
                                                  try clear q145
                                                  try clear q146
                                                  obtain ⟨x9_7, rfl, HA, HK7, BK139, BK144, HB⟩ := hrel
                                                  cases gk with
                                                  | zero => exact absurd HA.out (by simp [quoinlaw11_small.l3])
                                                  | succ k7 =>
                                                    have H := HA.out
                                                    clear HA
                                                    simp only [quoinlaw11_small.l3] at H
                                                    by_cases c42 : 0 ≤ x8_5
                                                    · rw [if_pos c42] at H
                                                      have c42b0 : decide (0 ≤ x8_5) = true := decide_eq_true c42
                                                      clear c42
                                                      by_cases c43 : x8_5 < (((rd_T35 ((rd_T74 l0_0 x5_2).f1) x6_3).f3).length : Int)
                                                      · rw [if_pos c43] at H
                                                        have c43b0 : decide (x8_5 < (((rd_T35 ((rd_T74 l0_0 x5_2).f1) x6_3).f3).length : Int)) = true := decide_eq_true c43
                                                        clear c43
                                                        by_cases c44 : x9_7 < (((rd_T50 ((rd_T35 ((rd_T74 l0_0 x5_2).f1) x6_3).f3) x8_5).f1).length : Int)
                                                        · rw [if_pos c44] at H
                                                          have c44b0 : decide (x9_7 < (((rd_T50 ((rd_T35 ((rd_T74 l0_0 x5_2).f1) x6_3).f3) x8_5).f1).length : Int)) = true := decide_eq_true c44
                                                          clear c44
                                                          by_cases c45 : 0 ≤ x9_7
                                                          · rw [if_pos c45] at H
                                                            have c45b0 : decide (0 ≤ x9_7) = true := decide_eq_true c45
                                                            clear c45
                                                            replace H := Option.bind_eq_some_iff.mp H
                                                            obtain ⟨t151, A460, H⟩ := H
                                                            replace H : (if t151 > 60 then (some false) else (quoinlaw11_small.l3 k7 l1 x5_2 x6_3 x8_5 (wrap64 (x9_7 + 1)) l0_0 l0_1 l0_2 l0_3 l0_4 ((rd_T35 ((rd_T74 l0_0 x5_2).f1) x6_3).f0) ((rd_T35 ((rd_T74 l0_0 x5_2).f1) x6_3).f1) ((rd_T35 ((rd_T74 l0_0 x5_2).f1) x6_3).f2) ((rd_T35 ((rd_T74 l0_0 x5_2).f1) x6_3).f3))) = some r := H
                                                            have A46 := Aside0.mk A460
                                                            clear A460
                                                            by_cases c47 : t151 > 60
                                                            · rw [if_pos c47] at H
                                                              have c47b0 : decide (60 < t151) = true := decide_eq_true c47
                                                              clear c47
                                                              obtain rfl := Option.some.inj H
                                                              have hnb48 := NB144_139.out
                                                              have hnc48 := NB139_144.out
                                                              have hcz49_0 : wr.cell? ⟨gb144, 0, none⟩ = some (.string ((rd_T35 ((rd_T74 l0_0 x5_2).f1) x6_3).f0)) := (blk_cell BK144.out 0).trans rfl
                                                              have hcz49_1 : wr.cell? ⟨gb144, 1, none⟩ = some (.bool ((rd_T35 ((rd_T74 l0_0 x5_2).f1) x6_3).f1)) := (blk_cell BK144.out 1).trans rfl
                                                              have hcz49_2 : wr.cell? ⟨gb144, 2, none⟩ = some (.slice A143_2 ((rd_T35 ((rd_T74 l0_0 x5_2).f1) x6_3).f2).length c143_2) := (blk_cell BK144.out 2).trans rfl
                                                              have hcz49_3 : wr.cell? ⟨gb144, 3, none⟩ = some (.slice A143_3 ((rd_T35 ((rd_T74 l0_0 x5_2).f1) x6_3).f3).length c143_3) := (blk_cell BK144.out 3).trans rfl
                                                              have hfz49_0 := blk_frozen BK144.out 0
                                                              have hfz49_1 := blk_frozen BK144.out 1
                                                              have hfz49_2 := blk_frozen BK144.out 2
                                                              have hfz49_3 := blk_frozen BK144.out 3
                                                              have p148 : 0 ≤ (x8_5 : Int) := of_decide_eq_true (by first | (with_reducible assumption) | assumption)
                                                              have q148 : x8_5 < (((rd_T35 ((rd_T74 l0_0 x5_2).f1) x6_3).f3).length : Int) := of_decide_eq_true (by first | (with_reducible assumption) | assumption)
                                                              obtain ⟨ad148, A148_1, c148_1, A148_6, c148_6, e148, hx148_0, hx148_1, hx148_2, hx148_3, hx148_4, hx148_5, hx148_6, hl148_1, hi148_1, hl148_6, hi148_6⟩ := at_T50 HR143_3.out x8_5 p148 q148
                                                              cases e148
                                                              replace hx148_0 := (HB.out.cell (World.block_lt_of_cell? w _ hx148_0)).trans hx148_0
                                                              replace hx148_1 := (HB.out.cell (World.block_lt_of_cell? w _ hx148_1)).trans hx148_1
                                                              replace hx148_2 := (HB.out.cell (World.block_lt_of_cell? w _ hx148_2)).trans hx148_2
                                                              replace hx148_3 := (HB.out.cell (World.block_lt_of_cell? w _ hx148_3)).trans hx148_3
                                                              replace hx148_4 := (HB.out.cell (World.block_lt_of_cell? w _ hx148_4)).trans hx148_4
                                                              replace hx148_5 := (HB.out.cell (World.block_lt_of_cell? w _ hx148_5)).trans hx148_5
                                                              replace hx148_6 := (HB.out.cell (World.block_lt_of_cell? w _ hx148_6)).trans hx148_6
                                                              have HR148_1 := Aside0.mk hi148_1
                                                              have HC148_1 := Aside0.mk hl148_1
                                                              clear hi148_1 hl148_1
                                                              have HR148_6 := Aside0.mk hi148_6
                                                              have HC148_6 := Aside0.mk hl148_6
                                                              clear hi148_6 hl148_6
                                                              replace p148 := eq_true p148
                                                              replace q148 := eq_true q148
                                                              have p149 : 0 ≤ (x8_5 : Int) := of_decide_eq_true (by first | (with_reducible assumption) | assumption)
                                                              have q149 : x8_5 < (((rd_T35 ((rd_T74 l0_0 x5_2).f1) x6_3).f3).length : Int) := of_decide_eq_true (by first | (with_reducible assumption) | assumption)
                                                              obtain ⟨ad149, A149_1, c149_1, A149_6, c149_6, e149, hx149_0, hx149_1, hx149_2, hx149_3, hx149_4, hx149_5, hx149_6, hl149_1, hi149_1, hl149_6, hi149_6⟩ := at_T50 HR143_3.out x8_5 p149 q149
                                                              obtain rfl : ad148 = ad149 := (by injection e149)
                                                              replace hx149_0 := (HB.out.cell (World.block_lt_of_cell? w _ hx149_0)).trans hx149_0
                                                              replace hx149_1 := (HB.out.cell (World.block_lt_of_cell? w _ hx149_1)).trans hx149_1
                                                              replace hx149_2 := (HB.out.cell (World.block_lt_of_cell? w _ hx149_2)).trans hx149_2
                                                              replace hx149_3 := (HB.out.cell (World.block_lt_of_cell? w _ hx149_3)).trans hx149_3
                                                              replace hx149_4 := (HB.out.cell (World.block_lt_of_cell? w _ hx149_4)).trans hx149_4
                                                              replace hx149_5 := (HB.out.cell (World.block_lt_of_cell? w _ hx149_5)).trans hx149_5
                                                              replace hx149_6 := (HB.out.cell (World.block_lt_of_cell? w _ hx149_6)).trans hx149_6
                                                              have HR149_1 := Aside0.mk hi149_1
                                                              have HC149_1 := Aside0.mk hl149_1
                                                              clear hi149_1 hl149_1
                                                              have HR149_6 := Aside0.mk hi149_6
                                                              have HC149_6 := Aside0.mk hl149_6
                                                              clear hi149_6 hl149_6
                                                              replace p149 := eq_true p149
                                                              replace q149 := eq_true q149
                                                              have ea_ := Option.some.inj (hx148_1.symm.trans hx149_1)
                                                              injection ea_ with ea_ en_ ec_
                                                              subst ea_
                                                              subst ec_
                                                              clear en_
                                                              have ea_ := Option.some.inj (hx148_6.symm.trans hx149_6)
                                                              injection ea_ with ea_ en_ ec_
                                                              subst ea_
                                                              subst ec_
                                                              clear en_
                                                              have p150 : 0 ≤ (x9_7 : Int) := of_decide_eq_true (by first | (with_reducible assumption) | assumption)
                                                              have q150 : x9_7 < (((rd_T50 ((rd_T35 ((rd_T74 l0_0 x5_2).f1) x6_3).f3) x8_5).f1).length : Int) := of_decide_eq_true (by first | (with_reducible assumption) | assumption)
                                                              obtain ⟨ad150, A150_4, c150_4, e150, hx150_0, hx150_1, hx150_2, hx150_3, hx150_4, hl150_4, hi150_4⟩ := at_T29 HR149_1.out x9_7 p150 q150
                                                              cases e150
                                                              replace hx150_0 := (HB.out.cell (World.block_lt_of_cell? w _ hx150_0)).trans hx150_0
                                                              replace hx150_1 := (HB.out.cell (World.block_lt_of_cell? w _ hx150_1)).trans hx150_1
                                                              replace hx150_2 := (HB.out.cell (World.block_lt_of_cell? w _ hx150_2)).trans hx150_2
                                                              replace hx150_3 := (HB.out.cell (World.block_lt_of_cell? w _ hx150_3)).trans hx150_3
                                                              replace hx150_4 := (HB.out.cell (World.block_lt_of_cell? w _ hx150_4)).trans hx150_4
                                                              have HR150_4 := Aside0.mk hi150_4
                                                              have HC150_4 := Aside0.mk hl150_4
                                                              clear hi150_4 hl150_4
                                                              replace p150 := eq_true p150
                                                              replace q150 := eq_true q150
                                                              go_wp2_with (first | ((with_reducible refine gate_callee (f := 34) rfl ?_); refine goesL_ (some 111) rfl rfl Try.func34 (by kernel_rfl) rfl #[.agg #[.int .i64 ((rd_T29 ((rd_T50 ((rd_T35 ((rd_T74 l0_0 x5_2).f1) x6_3).f3) x8_5).f1) x9_7).f0), .string ((rd_T29 ((rd_T50 ((rd_T35 ((rd_T74 l0_0 x5_2).f1) x6_3).f3) x8_5).f1) x9_7).f1), .string ((rd_T29 ((rd_T50 ((rd_T35 ((rd_T74 l0_0 x5_2).f1) x6_3).f3) x8_5).f1) x9_7).f2), .int .i64 ((rd_T29 ((rd_T50 ((rd_T35 ((rd_T74 l0_0 x5_2).f1) x6_3).f3) x8_5).f1) x9_7).f3), .slice A150_4 ((rd_T29 ((rd_T50 ((rd_T35 ((rd_T74 l0_0 x5_2).f1) x6_3).f3) x8_5).f1) x9_7).f4).length c150_4], .int .i64 0] rfl (by (try simp only [List.map_toArray, List.map_cons, List.map_nil]); first | done | rfl | (simp only [List.length_drop, List.length_take]; rfl)) ?_; (with_reducible refine (quoinlaw11_parts.calls k7 ((rd_T29 ((rd_T50 ((rd_T35 ((rd_T74 l0_0 x5_2).f1) x6_3).f3) x8_5).f1) x9_7).f0) ((rd_T29 ((rd_T50 ((rd_T35 ((rd_T74 l0_0 x5_2).f1) x6_3).f3) x8_5).f1) x9_7).f1) ((rd_T29 ((rd_T50 ((rd_T35 ((rd_T74 l0_0 x5_2).f1) x6_3).f3) x8_5).f1) x9_7).f2) ((rd_T29 ((rd_T50 ((rd_T35 ((rd_T74 l0_0 x5_2).f1) x6_3).f3) x8_5).f1) x9_7).f3) _ _ ((rd_T29 ((rd_T50 ((rd_T35 ((rd_T74 l0_0 x5_2).f1) x6_3).f3) x8_5).f1) x9_7).f4) 0 t151 _ ?side1 ?side2 A46.out).mono ?_); (case side1 => repeat (first | exact (Kd.C_below HR150_4.out HB.out) | (with_reducible refine Kd.C_alloc ?_ _) | (with_reducible refine Kd.C_drewN ?_ _) | (with_reducible refine Kd.C_drew ?_))); (case side2 => exact HC150_4.out); rintro e w50 ⟨rfl, hb⟩; refine ⟨_, rfl, ?_⟩; have n0_ := Aside0.mk (blk_below (g := gb139) (o := .cells #[.slice (some ad140) l0_0.length c0_0, .slice A0_1 l0_1.length c0_1, .slice A0_2 l0_2.length c0_2, .slice A0_3 l0_3.length c0_3, .slice A0_4 l0_4.length c0_4] 27 (0, 0)) (by (with_reducible repeat (first | refine blk_drewN ?_ _ | refine blk_drew ?_ | refine blk_alloc ?_ _)); exact BK139.out) hb); have n1_ := Aside0.mk (blk_below (g := gb144) (o := .cells #[.string ((rd_T35 ((rd_T74 l0_0 x5_2).f1) x6_3).f0), .bool ((rd_T35 ((rd_T74 l0_0 x5_2).f1) x6_3).f1), .slice A143_2 ((rd_T35 ((rd_T74 l0_0 x5_2).f1) x6_3).f2).length c143_2, .slice (some ad148) ((rd_T35 ((rd_T74 l0_0 x5_2).f1) x6_3).f3).length c143_3] 35 (0, 0)) (by (with_reducible repeat (first | refine blk_drewN ?_ _ | refine blk_drew ?_ | refine blk_alloc ?_ _)); exact BK144.out) hb); have n2_ := Aside0.mk (below_step (by repeat (first | (with_reducible first | exact HB.out | apply below_alloc | apply pw_below_drewN | apply below_drew1 | refine below_set ?_ GE139.out | refine below_set ?_ GE144.out) | exact HB.out)) hb); clear BK139; clear BK144; clear HB; have BK139 := n0_; have BK144 := n1_; have HB := n2_; clear n0_ n1_ n2_; (try clear hb); (try clear hb2); (try clear hk); (try clear hi)))
                                                              go_ret
                                                              exact ⟨by first | rfl | (simp [errW_none, errW_some] <;> rfl) | (simp [*, errW_none, errW_some] <;> rfl), by repeat (first | (with_reducible first | exact HB.out | apply below_alloc | apply pw_below_drewN | apply below_drew1 | refine below_set ?_ GE139.out | refine below_set ?_ GE144.out) | exact HB.out)⟩
                                                            · rw [if_neg c47] at H
                                                              have c47b0 : decide (60 < t151) = false := decide_eq_false c47
                                                              clear c47
                                                              have H' := Aside0.mk H
                                                              clear H
                                                              have hnb51 := NB144_139.out
                                                              have hnc51 := NB139_144.out
                                                              have hcz52_0 : wr.cell? ⟨gb144, 0, none⟩ = some (.string ((rd_T35 ((rd_T74 l0_0 x5_2).f1) x6_3).f0)) := (blk_cell BK144.out 0).trans rfl
                                                              have hcz52_1 : wr.cell? ⟨gb144, 1, none⟩ = some (.bool ((rd_T35 ((rd_T74 l0_0 x5_2).f1) x6_3).f1)) := (blk_cell BK144.out 1).trans rfl
                                                              have hcz52_2 : wr.cell? ⟨gb144, 2, none⟩ = some (.slice A143_2 ((rd_T35 ((rd_T74 l0_0 x5_2).f1) x6_3).f2).length c143_2) := (blk_cell BK144.out 2).trans rfl
                                                              have hcz52_3 : wr.cell? ⟨gb144, 3, none⟩ = some (.slice A143_3 ((rd_T35 ((rd_T74 l0_0 x5_2).f1) x6_3).f3).length c143_3) := (blk_cell BK144.out 3).trans rfl
                                                              have hfz52_0 := blk_frozen BK144.out 0
                                                              have hfz52_1 := blk_frozen BK144.out 1
                                                              have hfz52_2 := blk_frozen BK144.out 2
                                                              have hfz52_3 := blk_frozen BK144.out 3
                                                              have p148 : 0 ≤ (x8_5 : Int) := of_decide_eq_true (by first | (with_reducible assumption) | assumption)
                                                              have q148 : x8_5 < (((rd_T35 ((rd_T74 l0_0 x5_2).f1) x6_3).f3).length : Int) := of_decide_eq_true (by first | (with_reducible assumption) | assumption)
                                                              obtain ⟨ad148, A148_1, c148_1, A148_6, c148_6, e148, hx148_0, hx148_1, hx148_2, hx148_3, hx148_4, hx148_5, hx148_6, hl148_1, hi148_1, hl148_6, hi148_6⟩ := at_T50 HR143_3.out x8_5 p148 q148
                                                              cases e148
                                                              replace hx148_0 := (HB.out.cell (World.block_lt_of_cell? w _ hx148_0)).trans hx148_0
                                                              replace hx148_1 := (HB.out.cell (World.block_lt_of_cell? w _ hx148_1)).trans hx148_1
                                                              replace hx148_2 := (HB.out.cell (World.block_lt_of_cell? w _ hx148_2)).trans hx148_2
                                                              replace hx148_3 := (HB.out.cell (World.block_lt_of_cell? w _ hx148_3)).trans hx148_3
                                                              replace hx148_4 := (HB.out.cell (World.block_lt_of_cell? w _ hx148_4)).trans hx148_4
                                                              replace hx148_5 := (HB.out.cell (World.block_lt_of_cell? w _ hx148_5)).trans hx148_5
                                                              replace hx148_6 := (HB.out.cell (World.block_lt_of_cell? w _ hx148_6)).trans hx148_6
                                                              have HR148_1 := Aside0.mk hi148_1
                                                              have HC148_1 := Aside0.mk hl148_1
                                                              clear hi148_1 hl148_1
                                                              have HR148_6 := Aside0.mk hi148_6
                                                              have HC148_6 := Aside0.mk hl148_6
                                                              clear hi148_6 hl148_6
                                                              replace p148 := eq_true p148
                                                              replace q148 := eq_true q148
                                                              have p149 : 0 ≤ (x8_5 : Int) := of_decide_eq_true (by first | (with_reducible assumption) | assumption)
                                                              have q149 : x8_5 < (((rd_T35 ((rd_T74 l0_0 x5_2).f1) x6_3).f3).length : Int) := of_decide_eq_true (by first | (with_reducible assumption) | assumption)
                                                              obtain ⟨ad149, A149_1, c149_1, A149_6, c149_6, e149, hx149_0, hx149_1, hx149_2, hx149_3, hx149_4, hx149_5, hx149_6, hl149_1, hi149_1, hl149_6, hi149_6⟩ := at_T50 HR143_3.out x8_5 p149 q149
                                                              obtain rfl : ad148 = ad149 := (by injection e149)
                                                              replace hx149_0 := (HB.out.cell (World.block_lt_of_cell? w _ hx149_0)).trans hx149_0
                                                              replace hx149_1 := (HB.out.cell (World.block_lt_of_cell? w _ hx149_1)).trans hx149_1
                                                              replace hx149_2 := (HB.out.cell (World.block_lt_of_cell? w _ hx149_2)).trans hx149_2
                                                              replace hx149_3 := (HB.out.cell (World.block_lt_of_cell? w _ hx149_3)).trans hx149_3
                                                              replace hx149_4 := (HB.out.cell (World.block_lt_of_cell? w _ hx149_4)).trans hx149_4
                                                              replace hx149_5 := (HB.out.cell (World.block_lt_of_cell? w _ hx149_5)).trans hx149_5
                                                              replace hx149_6 := (HB.out.cell (World.block_lt_of_cell? w _ hx149_6)).trans hx149_6
                                                              have HR149_1 := Aside0.mk hi149_1
                                                              have HC149_1 := Aside0.mk hl149_1
                                                              clear hi149_1 hl149_1
                                                              have HR149_6 := Aside0.mk hi149_6
                                                              have HC149_6 := Aside0.mk hl149_6
                                                              clear hi149_6 hl149_6
                                                              replace p149 := eq_true p149
                                                              replace q149 := eq_true q149
                                                              have ea_ := Option.some.inj (hx148_1.symm.trans hx149_1)
                                                              injection ea_ with ea_ en_ ec_
                                                              subst ea_
                                                              subst ec_
                                                              clear en_
                                                              have ea_ := Option.some.inj (hx148_6.symm.trans hx149_6)
                                                              injection ea_ with ea_ en_ ec_
                                                              subst ea_
                                                              subst ec_
                                                              clear en_
                                                              have p150 : 0 ≤ (x9_7 : Int) := of_decide_eq_true (by first | (with_reducible assumption) | assumption)
                                                              have q150 : x9_7 < (((rd_T50 ((rd_T35 ((rd_T74 l0_0 x5_2).f1) x6_3).f3) x8_5).f1).length : Int) := of_decide_eq_true (by first | (with_reducible assumption) | assumption)
                                                              obtain ⟨ad150, A150_4, c150_4, e150, hx150_0, hx150_1, hx150_2, hx150_3, hx150_4, hl150_4, hi150_4⟩ := at_T29 HR149_1.out x9_7 p150 q150
                                                              cases e150
                                                              replace hx150_0 := (HB.out.cell (World.block_lt_of_cell? w _ hx150_0)).trans hx150_0
                                                              replace hx150_1 := (HB.out.cell (World.block_lt_of_cell? w _ hx150_1)).trans hx150_1
                                                              replace hx150_2 := (HB.out.cell (World.block_lt_of_cell? w _ hx150_2)).trans hx150_2
                                                              replace hx150_3 := (HB.out.cell (World.block_lt_of_cell? w _ hx150_3)).trans hx150_3
                                                              replace hx150_4 := (HB.out.cell (World.block_lt_of_cell? w _ hx150_4)).trans hx150_4
                                                              have HR150_4 := Aside0.mk hi150_4
                                                              have HC150_4 := Aside0.mk hl150_4
                                                              clear hi150_4 hl150_4
                                                              replace p150 := eq_true p150
                                                              replace q150 := eq_true q150
                                                              go_wp2_with (first | ((with_reducible refine gate_callee (f := 34) rfl ?_); refine goesL_ (some 111) rfl rfl Try.func34 (by kernel_rfl) rfl #[.agg #[.int .i64 ((rd_T29 ((rd_T50 ((rd_T35 ((rd_T74 l0_0 x5_2).f1) x6_3).f3) x8_5).f1) x9_7).f0), .string ((rd_T29 ((rd_T50 ((rd_T35 ((rd_T74 l0_0 x5_2).f1) x6_3).f3) x8_5).f1) x9_7).f1), .string ((rd_T29 ((rd_T50 ((rd_T35 ((rd_T74 l0_0 x5_2).f1) x6_3).f3) x8_5).f1) x9_7).f2), .int .i64 ((rd_T29 ((rd_T50 ((rd_T35 ((rd_T74 l0_0 x5_2).f1) x6_3).f3) x8_5).f1) x9_7).f3), .slice A150_4 ((rd_T29 ((rd_T50 ((rd_T35 ((rd_T74 l0_0 x5_2).f1) x6_3).f3) x8_5).f1) x9_7).f4).length c150_4], .int .i64 0] rfl (by (try simp only [List.map_toArray, List.map_cons, List.map_nil]); first | done | rfl | (simp only [List.length_drop, List.length_take]; rfl)) ?_; (with_reducible refine (quoinlaw11_parts.calls k7 ((rd_T29 ((rd_T50 ((rd_T35 ((rd_T74 l0_0 x5_2).f1) x6_3).f3) x8_5).f1) x9_7).f0) ((rd_T29 ((rd_T50 ((rd_T35 ((rd_T74 l0_0 x5_2).f1) x6_3).f3) x8_5).f1) x9_7).f1) ((rd_T29 ((rd_T50 ((rd_T35 ((rd_T74 l0_0 x5_2).f1) x6_3).f3) x8_5).f1) x9_7).f2) ((rd_T29 ((rd_T50 ((rd_T35 ((rd_T74 l0_0 x5_2).f1) x6_3).f3) x8_5).f1) x9_7).f3) _ _ ((rd_T29 ((rd_T50 ((rd_T35 ((rd_T74 l0_0 x5_2).f1) x6_3).f3) x8_5).f1) x9_7).f4) 0 t151 _ ?side1 ?side2 A46.out).mono ?_); (case side1 => repeat (first | exact (Kd.C_below HR150_4.out HB.out) | (with_reducible refine Kd.C_alloc ?_ _) | (with_reducible refine Kd.C_drewN ?_ _) | (with_reducible refine Kd.C_drew ?_))); (case side2 => exact HC150_4.out); rintro e w53 ⟨rfl, hb⟩; refine ⟨_, rfl, ?_⟩; have n0_ := Aside0.mk (blk_below (g := gb139) (o := .cells #[.slice (some ad140) l0_0.length c0_0, .slice A0_1 l0_1.length c0_1, .slice A0_2 l0_2.length c0_2, .slice A0_3 l0_3.length c0_3, .slice A0_4 l0_4.length c0_4] 27 (0, 0)) (by (with_reducible repeat (first | refine blk_drewN ?_ _ | refine blk_drew ?_ | refine blk_alloc ?_ _)); exact BK139.out) hb); have n1_ := Aside0.mk (blk_below (g := gb144) (o := .cells #[.string ((rd_T35 ((rd_T74 l0_0 x5_2).f1) x6_3).f0), .bool ((rd_T35 ((rd_T74 l0_0 x5_2).f1) x6_3).f1), .slice A143_2 ((rd_T35 ((rd_T74 l0_0 x5_2).f1) x6_3).f2).length c143_2, .slice (some ad148) ((rd_T35 ((rd_T74 l0_0 x5_2).f1) x6_3).f3).length c143_3] 35 (0, 0)) (by (with_reducible repeat (first | refine blk_drewN ?_ _ | refine blk_drew ?_ | refine blk_alloc ?_ _)); exact BK144.out) hb); have n2_ := Aside0.mk (below_step (by repeat (first | (with_reducible first | exact HB.out | apply below_alloc | apply pw_below_drewN | apply below_drew1 | refine below_set ?_ GE139.out | refine below_set ?_ GE144.out) | exact HB.out)) hb); clear BK139; clear BK144; clear HB; have BK139 := n0_; have BK144 := n1_; have HB := n2_; clear n0_ n1_ n2_; (try clear hb); (try clear hb2); (try clear hk); (try clear hi)))
                                                              go_roundg k7
                                                              case measure => have := HJ2.out; have := HK2.out; have := HK3.out; have := HJ17.out; have := HK5.out; have := HJ29.out; have := HK7.out; omega
                                                              case rel => exact ⟨(wrap64 (x9_7 + 1)), (by first | rfl | (simp; done) | (simp [*]; done)), H', ⟨by have := HJ2.out; have := HK2.out; have := HK3.out; have := HJ17.out; have := HK5.out; have := HJ29.out; have := HK7.out; omega⟩, ⟨by (with_reducible repeat (first | refine blk_drewN ?_ _ | refine blk_drew ?_ | refine blk_alloc ?_ _)); exact BK139.out⟩, ⟨by (with_reducible repeat (first | refine blk_drewN ?_ _ | refine blk_drew ?_ | refine blk_alloc ?_ _)); exact BK144.out⟩, ⟨by repeat (first | (with_reducible first | exact HB.out | apply below_alloc | apply pw_below_drewN | apply below_drew1 | refine below_set ?_ GE139.out | refine below_set ?_ GE144.out) | exact HB.out)⟩⟩
                                                          · rw [if_neg c45] at H
                                                            exact absurd H (by simp)
                                                        · rw [if_neg c44] at H
                                                          have c44b0 : decide (x9_7 < (((rd_T50 ((rd_T35 ((rd_T74 l0_0 x5_2).f1) x6_3).f3) x8_5).f1).length : Int)) = false := decide_eq_false c44
                                                          clear c44
                                                          have H' := Aside0.mk H
                                                          clear H
                                                          have hnb54 := NB144_139.out
                                                          have hnc54 := NB139_144.out
                                                          have hcz55_0 : wr.cell? ⟨gb144, 0, none⟩ = some (.string ((rd_T35 ((rd_T74 l0_0 x5_2).f1) x6_3).f0)) := (blk_cell BK144.out 0).trans rfl
                                                          have hcz55_1 : wr.cell? ⟨gb144, 1, none⟩ = some (.bool ((rd_T35 ((rd_T74 l0_0 x5_2).f1) x6_3).f1)) := (blk_cell BK144.out 1).trans rfl
                                                          have hcz55_2 : wr.cell? ⟨gb144, 2, none⟩ = some (.slice A143_2 ((rd_T35 ((rd_T74 l0_0 x5_2).f1) x6_3).f2).length c143_2) := (blk_cell BK144.out 2).trans rfl
                                                          have hcz55_3 : wr.cell? ⟨gb144, 3, none⟩ = some (.slice A143_3 ((rd_T35 ((rd_T74 l0_0 x5_2).f1) x6_3).f3).length c143_3) := (blk_cell BK144.out 3).trans rfl
                                                          have hfz55_0 := blk_frozen BK144.out 0
                                                          have hfz55_1 := blk_frozen BK144.out 1
                                                          have hfz55_2 := blk_frozen BK144.out 2
                                                          have hfz55_3 := blk_frozen BK144.out 3
                                                          have p148 : 0 ≤ (x8_5 : Int) := of_decide_eq_true (by first | (with_reducible assumption) | assumption)
                                                          have q148 : x8_5 < (((rd_T35 ((rd_T74 l0_0 x5_2).f1) x6_3).f3).length : Int) := of_decide_eq_true (by first | (with_reducible assumption) | assumption)
                                                          obtain ⟨ad148, A148_1, c148_1, A148_6, c148_6, e148, hx148_0, hx148_1, hx148_2, hx148_3, hx148_4, hx148_5, hx148_6, hl148_1, hi148_1, hl148_6, hi148_6⟩ := at_T50 HR143_3.out x8_5 p148 q148
                                                          cases e148
                                                          replace hx148_0 := (HB.out.cell (World.block_lt_of_cell? w _ hx148_0)).trans hx148_0
                                                          replace hx148_1 := (HB.out.cell (World.block_lt_of_cell? w _ hx148_1)).trans hx148_1
                                                          replace hx148_2 := (HB.out.cell (World.block_lt_of_cell? w _ hx148_2)).trans hx148_2
                                                          replace hx148_3 := (HB.out.cell (World.block_lt_of_cell? w _ hx148_3)).trans hx148_3
                                                          replace hx148_4 := (HB.out.cell (World.block_lt_of_cell? w _ hx148_4)).trans hx148_4
                                                          replace hx148_5 := (HB.out.cell (World.block_lt_of_cell? w _ hx148_5)).trans hx148_5
                                                          replace hx148_6 := (HB.out.cell (World.block_lt_of_cell? w _ hx148_6)).trans hx148_6
                                                          have HR148_1 := Aside0.mk hi148_1
                                                          have HC148_1 := Aside0.mk hl148_1
                                                          clear hi148_1 hl148_1
                                                          have HR148_6 := Aside0.mk hi148_6
                                                          have HC148_6 := Aside0.mk hl148_6
                                                          clear hi148_6 hl148_6
                                                          replace p148 := eq_true p148
                                                          replace q148 := eq_true q148
                                                          go_wp2
                                                          go_roundg k7
                                                          case measure => have := HJ2.out; have := HK2.out; have := HK3.out; have := HJ17.out; have := HK5.out; have := HJ29.out; have := HK7.out; omega
                                                          case rel => exact ⟨(wrap64 (x8_5 + 1)), (by first | rfl | (simp; done) | (simp [*]; done)), H', ⟨by have := HJ2.out; have := HK2.out; have := HK3.out; have := HJ17.out; have := HK5.out; have := HJ29.out; have := HK7.out; omega⟩, ⟨by (with_reducible repeat (first | refine blk_drewN ?_ _ | refine blk_drew ?_ | refine blk_alloc ?_ _)); exact BK139.out⟩, ⟨by (with_reducible repeat (first | refine blk_drewN ?_ _ | refine blk_drew ?_ | refine blk_alloc ?_ _)); exact BK144.out⟩, ⟨by repeat (first | (with_reducible first | exact HB.out | apply below_alloc | apply pw_below_drewN | apply below_drew1 | refine below_set ?_ GE139.out | refine below_set ?_ GE144.out) | exact HB.out)⟩⟩
                                                      · rw [if_neg c43] at H
                                                        exact absurd H (by simp)
                                                    · rw [if_neg c42] at H
                                                      exact absurd H (by simp)
                                        · rw [if_neg c29] at H
                                          have c29b0 : decide (x8_5 < (((rd_T35 ((rd_T74 l0_0 x5_2).f1) x6_3).f3).length : Int)) = false := decide_eq_false c29
                                          clear c29
                                          have H' := Aside0.mk H
                                          clear H
                                          have hnb56 := NB144_139.out
                                          have hnc56 := NB139_144.out
                                          have hcz57_0 : wr.cell? ⟨gb144, 0, none⟩ = some (.string ((rd_T35 ((rd_T74 l0_0 x5_2).f1) x6_3).f0)) := (blk_cell BK144.out 0).trans rfl
                                          have hcz57_1 : wr.cell? ⟨gb144, 1, none⟩ = some (.bool ((rd_T35 ((rd_T74 l0_0 x5_2).f1) x6_3).f1)) := (blk_cell BK144.out 1).trans rfl
                                          have hcz57_2 : wr.cell? ⟨gb144, 2, none⟩ = some (.slice A143_2 ((rd_T35 ((rd_T74 l0_0 x5_2).f1) x6_3).f2).length c143_2) := (blk_cell BK144.out 2).trans rfl
                                          have hcz57_3 : wr.cell? ⟨gb144, 3, none⟩ = some (.slice A143_3 ((rd_T35 ((rd_T74 l0_0 x5_2).f1) x6_3).f3).length c143_3) := (blk_cell BK144.out 3).trans rfl
                                          have hfz57_0 := blk_frozen BK144.out 0
                                          have hfz57_1 := blk_frozen BK144.out 1
                                          have hfz57_2 := blk_frozen BK144.out 2
                                          have hfz57_3 := blk_frozen BK144.out 3
                                          go_wp2
                                          go_roundg k5
                                          case measure => have := HJ2.out; have := HK2.out; have := HK3.out; have := HJ17.out; have := HK5.out; omega
                                          case rel => exact ⟨(wrap64 (x6_3 + 1)), (by first | rfl | (simp; done) | (simp [*]; done)), H', ⟨by have := HJ2.out; have := HK2.out; have := HK3.out; have := HJ17.out; have := HK5.out; omega⟩, ⟨by (with_reducible repeat (first | refine blk_drewN ?_ _ | refine blk_drew ?_ | refine blk_alloc ?_ _)); exact BK139.out⟩, ⟨by repeat (first | (with_reducible first | exact HB.out | apply below_alloc | apply pw_below_drewN | apply below_drew1 | refine below_set ?_ GE139.out | refine below_set ?_ GE144.out) | exact HB.out)⟩⟩
                            · rw [if_neg c17] at H
                              exact absurd H (by simp)
                          · rw [if_neg c16] at H
                            have c16b0 : decide (x6_3 < (((rd_T74 l0_0 x5_2).f1).length : Int)) = false := decide_eq_false c16
                            clear c16
                            have H' := Aside0.mk H
                            clear H
                            have hcz58_0 : wr.cell? ⟨gb139, 0, none⟩ = some (.slice (some ad140) l0_0.length c0_0) := (blk_cell BK139.out 0).trans rfl
                            have hcz58_1 : wr.cell? ⟨gb139, 1, none⟩ = some (.slice A0_1 l0_1.length c0_1) := (blk_cell BK139.out 1).trans rfl
                            have hcz58_2 : wr.cell? ⟨gb139, 2, none⟩ = some (.slice A0_2 l0_2.length c0_2) := (blk_cell BK139.out 2).trans rfl
                            have hcz58_3 : wr.cell? ⟨gb139, 3, none⟩ = some (.slice A0_3 l0_3.length c0_3) := (blk_cell BK139.out 3).trans rfl
                            have hcz58_4 : wr.cell? ⟨gb139, 4, none⟩ = some (.slice A0_4 l0_4.length c0_4) := (blk_cell BK139.out 4).trans rfl
                            have hfz58_0 := blk_frozen BK139.out 0
                            have hfz58_1 := blk_frozen BK139.out 1
                            have hfz58_2 := blk_frozen BK139.out 2
                            have hfz58_3 := blk_frozen BK139.out 3
                            have hfz58_4 := blk_frozen BK139.out 4
                            have p141 : 0 ≤ (x5_2 : Int) := of_decide_eq_true (by first | (with_reducible assumption) | assumption)
                            have q141 : x5_2 < (l0_0.length : Int) := of_decide_eq_true (by first | (with_reducible assumption) | assumption)
                            obtain ⟨ad141, A141_1, c141_1, A141_2, c141_2, e141, hx141_0, hx141_1, hx141_2, hl141_1, hi141_1, hl141_2, hi141_2⟩ := at_T74 HR0_0.out x5_2 p141 q141
                            obtain rfl : ad140 = ad141 := (by injection e141)
                            replace hx141_0 := (HB.out.cell (World.block_lt_of_cell? w _ hx141_0)).trans hx141_0
                            replace hx141_1 := (HB.out.cell (World.block_lt_of_cell? w _ hx141_1)).trans hx141_1
                            replace hx141_2 := (HB.out.cell (World.block_lt_of_cell? w _ hx141_2)).trans hx141_2
                            have HR141_1 := Aside0.mk hi141_1
                            have HC141_1 := Aside0.mk hl141_1
                            clear hi141_1 hl141_1
                            have HR141_2 := Aside0.mk hi141_2
                            have HC141_2 := Aside0.mk hl141_2
                            clear hi141_2 hl141_2
                            replace p141 := eq_true p141
                            replace q141 := eq_true q141
                            go_wp2
                            go_roundg k3
                            case measure => have := HJ2.out; have := HK2.out; have := HK3.out; omega
                            case rel => exact ⟨(wrap64 (x5_2 + 1)), (by first | rfl | (simp; done) | (simp [*]; done)), H', ⟨by have := HJ2.out; have := HK2.out; have := HK3.out; omega⟩, ⟨by (with_reducible repeat (first | refine blk_drewN ?_ _ | refine blk_drew ?_ | refine blk_alloc ?_ _)); exact BK139.out⟩, ⟨by repeat (first | (with_reducible first | exact HB.out | apply below_alloc | apply pw_below_drewN | apply below_drew1 | refine below_set ?_ GE139.out) | exact HB.out)⟩⟩
                        · rw [if_neg c15] at H
                          exact absurd H (by simp)
                      · rw [if_neg c14] at H
                        exact absurd H (by simp)
              · rw [if_neg c10] at H
                exact absurd H (by simp)
            · rw [if_neg c9] at H
              have c9b0 : decide (x5_2 < (l0_0.length : Int)) = false := decide_eq_false c9
              clear c9
              have H' := Aside0.mk H
              clear H
              have hcz59_0 : wr.cell? ⟨gb139, 0, none⟩ = some (.slice A0_0 l0_0.length c0_0) := (blk_cell BK139.out 0).trans rfl
              have hcz59_1 : wr.cell? ⟨gb139, 1, none⟩ = some (.slice A0_1 l0_1.length c0_1) := (blk_cell BK139.out 1).trans rfl
              have hcz59_2 : wr.cell? ⟨gb139, 2, none⟩ = some (.slice A0_2 l0_2.length c0_2) := (blk_cell BK139.out 2).trans rfl
              have hcz59_3 : wr.cell? ⟨gb139, 3, none⟩ = some (.slice A0_3 l0_3.length c0_3) := (blk_cell BK139.out 3).trans rfl
              have hcz59_4 : wr.cell? ⟨gb139, 4, none⟩ = some (.slice A0_4 l0_4.length c0_4) := (blk_cell BK139.out 4).trans rfl
              have hfz59_0 := blk_frozen BK139.out 0
              have hfz59_1 := blk_frozen BK139.out 1
              have hfz59_2 := blk_frozen BK139.out 2
              have hfz59_3 := blk_frozen BK139.out 3
              have hfz59_4 := blk_frozen BK139.out 4
              go_wp2
              go_loopg [10] k2 (fun kq v10 w' => ∃ (x10_3 : Int), v10 = .int .i64 x10_3 ∧ Aside0 (quoinlaw11_small.l4 kq l1 x10_3 = some r) ∧ Aside0 (kq ≤ k2) ∧ Aside0 (w'.heap[gb139]? = some (.cells #[(.slice A0_0 l0_0.length c0_0), (.slice A0_1 l0_1.length c0_1), (.slice A0_2 l0_2.length c0_2), (.slice A0_3 l0_3.length c0_3), (.slice A0_4 l0_4.length c0_4)] 27 (0, 0))) ∧ Aside0 (Below w.heap.size w w'))
              case atStart => exact ⟨(0), (by first | rfl | (simp; done) | (simp [*]; done)), H', ⟨Nat.le_refl _⟩, ⟨by (with_reducible repeat (first | refine blk_drewN ?_ _ | refine blk_drew ?_ | refine blk_alloc ?_ _)); exact BK139.out⟩, ⟨by repeat (first | (with_reducible first | exact HB.out | apply below_alloc | apply pw_below_drewN | apply below_drew1 | refine below_set ?_ GE139.out) | exact HB.out)⟩⟩
              case round =>
                clear H'
                try clear c1
                try clear p1
                try clear q1
                try clear hx1
                try clear c2
                try clear p2
                try clear c3
                try clear c4
                try clear c5
                try clear c5b0
                try clear c5b1
                try clear p6
                try clear c8
                try clear c9
                try clear c9b0
                try clear c10
                try clear c10b0
                try clear c11
                try clear c11b0
                try clear c11b1
                try clear c14
                try clear c14b0
                try clear p14
                try clear q14
                try clear hx14
                try clear c15
                try clear c15b0
                try clear p15
                try clear q15
                try clear hx15
                try clear c16
                try clear c16b0
                try clear c17
                try clear c17b0
                try clear c21
                try clear c23
                try clear c23b0
                try clear c23b1
                try clear c24
                try clear c26
                try clear c28
                try clear c29
                try clear c29b0
                try clear c31
                try clear c33
                try clear c33b0
                try clear c34
                try clear c34b0
                try clear c34b1
                try clear c35
                try clear c38
                try clear c41
                try clear c42
                try clear c42b0
                try clear c43
                try clear c43b0
                try clear c44
                try clear c44b0
                try clear c45
                try clear c45b0
                try clear c47
                try clear c47b0
                try clear c48
                try clear c51
                try clear c54
                try clear c56
                try clear hcz12_0
                try clear hcz12_1
                try clear hcz12_2
                try clear hcz12_3
                try clear hcz12_4
                try clear hcz13_0
                try clear hcz13_1
                try clear hcz13_2
                try clear hcz13_3
                try clear hcz13_4
                try clear hcz19_0
                try clear hcz19_1
                try clear hcz19_2
                try clear hcz19_3
                try clear hcz19_4
                try clear hcz22_0
                try clear hcz22_1
                try clear hcz22_2
                try clear hcz22_3
                try clear hcz25_0
                try clear hcz25_1
                try clear hcz25_2
                try clear hcz25_3
                try clear hcz27_0
                try clear hcz27_1
                try clear hcz27_2
                try clear hcz27_3
                try clear hcz32_0
                try clear hcz32_1
                try clear hcz32_2
                try clear hcz32_3
                try clear hcz36_0
                try clear hcz36_1
                try clear hcz36_2
                try clear hcz36_3
                try clear hcz39_0
                try clear hcz39_1
                try clear hcz39_2
                try clear hcz39_3
                try clear hcz49_0
                try clear hcz49_1
                try clear hcz49_2
                try clear hcz49_3
                try clear hcz52_0
                try clear hcz52_1
                try clear hcz52_2
                try clear hcz52_3
                try clear hcz55_0
                try clear hcz55_1
                try clear hcz55_2
                try clear hcz55_3
                try clear hcz57_0
                try clear hcz57_1
                try clear hcz57_2
                try clear hcz57_3
                try clear hcz58_0
                try clear hcz58_1
                try clear hcz58_2
                try clear hcz58_3
                try clear hcz58_4
                try clear hcz59_0
                try clear hcz59_1
                try clear hcz59_2
                try clear hcz59_3
                try clear hcz59_4
                try clear hcz6_0
                try clear hcz6_1
                try clear hcz6_2
                try clear hcz6_3
                try clear hcz6_4
                try clear hcz7_0
                try clear hcz7_1
                try clear hcz7_2
                try clear hcz7_3
                try clear hcz7_4
                try clear hfz12_0
                try clear hfz12_1
                try clear hfz12_2
                try clear hfz12_3
                try clear hfz12_4
                try clear hfz13_0
                try clear hfz13_1
                try clear hfz13_2
                try clear hfz13_3
                try clear hfz13_4
                try clear hfz19_0
                try clear hfz19_1
                try clear hfz19_2
                try clear hfz19_3
                try clear hfz19_4
                try clear hfz22_0
                try clear hfz22_1
                try clear hfz22_2
                try clear hfz22_3
                try clear hfz25_0
                try clear hfz25_1
                try clear hfz25_2
                try clear hfz25_3
                try clear hfz27_0
                try clear hfz27_1
                try clear hfz27_2
                try clear hfz27_3
                try clear hfz32_0
                try clear hfz32_1
                try clear hfz32_2
                try clear hfz32_3
                try clear hfz36_0
                try clear hfz36_1
                try clear hfz36_2
                try clear hfz36_3
                try clear hfz39_0
                try clear hfz39_1
                try clear hfz39_2
                try clear hfz39_3
                try clear hfz49_0
                try clear hfz49_1
                try clear hfz49_2
                try clear hfz49_3
                try clear hfz52_0
                try clear hfz52_1
                try clear hfz52_2
                try clear hfz52_3
                try clear hfz55_0
                try clear hfz55_1
                try clear hfz55_2
                try clear hfz55_3
                try clear hfz57_0
                try clear hfz57_1
                try clear hfz57_2
                try clear hfz57_3
                try clear hfz58_0
                try clear hfz58_1
                try clear hfz58_2
                try clear hfz58_3
                try clear hfz58_4
                try clear hfz59_0
                try clear hfz59_1
                try clear hfz59_2
                try clear hfz59_3
                try clear hfz59_4
                try clear hfz6_0
                try clear hfz6_1
                try clear hfz6_2
                try clear hfz6_3
                try clear hfz6_4
                try clear hfz7_0
                try clear hfz7_1
                try clear hfz7_2
                try clear hfz7_3
                try clear hfz7_4
                try clear hx140_0
                try clear hx140_1
                try clear hx140_2
                try clear hx141_0
                try clear hx141_1
                try clear hx141_2
                try clear hx142_0
                try clear hx142_1
                try clear hx142_2
                try clear hx143_0
                try clear hx143_1
                try clear hx143_2
                try clear hx143_3
                try clear hx145_0
                try clear hx145_1
                try clear hx145_2
                try clear hx145_3
                try clear hx145_4
                try clear hx145_5
                try clear hx145_6
                try clear hx146_0
                try clear hx146_1
                try clear hx146_2
                try clear hx146_3
                try clear hx146_4
                try clear hx146_5
                try clear hx146_6
                try clear hx148_0
                try clear hx148_1
                try clear hx148_2
                try clear hx148_3
                try clear hx148_4
                try clear hx148_5
                try clear hx148_6
                try clear hx149_0
                try clear hx149_1
                try clear hx149_2
                try clear hx149_3
                try clear hx149_4
                try clear hx149_5
                try clear hx149_6
                try clear hx150_0
                try clear hx150_1
                try clear hx150_2
                try clear hx150_3
                try clear hx150_4
                try clear p1
                try clear p14
                try clear p140
                try clear p141
                try clear p142
                try clear p143
                try clear p145
                try clear p146
                try clear p148
                try clear p149
                try clear p150
                try clear p2
                try clear q1
                try clear q14
                try clear q140
                try clear q141
                try clear q142
                try clear q143
                try clear q145
                try clear q146
                try clear q148
                try clear q149
                try clear q150
                obtain ⟨x10_3, rfl, HA, HK3, BK139, HB⟩ := hrel
                cases gk with
                | zero => exact absurd HA.out (by simp [quoinlaw11_small.l4])
                | succ k3 =>
                  have H := HA.out
                  clear HA
                  simp only [quoinlaw11_small.l4] at H
                  by_cases c60 : x10_3 < (l1.length : Int)
                  · rw [if_pos c60] at H
                    have c60b0 : decide (x10_3 < (l1.length : Int)) = true := decide_eq_true c60
                    clear c60
                    by_cases c61 : 0 ≤ x10_3
                    · rw [if_pos c61] at H
                      have c61b0 : decide (0 ≤ x10_3) = true := decide_eq_true c61
                      clear c61
                      replace H := Option.bind_eq_some_iff.mp H
                      obtain ⟨t153, A620, H⟩ := H
                      replace H : (if t153 > 60 then (some false) else (quoinlaw11_small.l4 k3 l1 (wrap64 (x10_3 + 1)))) = some r := H
                      have A62 := Aside0.mk A620
                      clear A620
                      by_cases c63 : t153 > 60
                      · rw [if_pos c63] at H
                        have c63b0 : decide (60 < t153) = true := decide_eq_true c63
                        clear c63
                        obtain rfl := Option.some.inj H
                        have p152 : 0 ≤ (x10_3 : Int) := of_decide_eq_true (by first | (with_reducible assumption) | assumption)
                        have q152 : x10_3 < (l1.length : Int) := of_decide_eq_true (by first | (with_reducible assumption) | assumption)
                        obtain ⟨ad152, A152_4, c152_4, e152, hx152_0, hx152_1, hx152_2, hx152_3, hx152_4, hl152_4, hi152_4⟩ := at_T29 HR1.out x10_3 p152 q152
                        cases e152
                        replace hx152_0 := (HB.out.cell (World.block_lt_of_cell? w _ hx152_0)).trans hx152_0
                        replace hx152_1 := (HB.out.cell (World.block_lt_of_cell? w _ hx152_1)).trans hx152_1
                        replace hx152_2 := (HB.out.cell (World.block_lt_of_cell? w _ hx152_2)).trans hx152_2
                        replace hx152_3 := (HB.out.cell (World.block_lt_of_cell? w _ hx152_3)).trans hx152_3
                        replace hx152_4 := (HB.out.cell (World.block_lt_of_cell? w _ hx152_4)).trans hx152_4
                        have HR152_4 := Aside0.mk hi152_4
                        have HC152_4 := Aside0.mk hl152_4
                        clear hi152_4 hl152_4
                        replace p152 := eq_true p152
                        replace q152 := eq_true q152
                        go_wp2_with (first | ((with_reducible refine gate_callee (f := 34) rfl ?_); refine goesL_ (some 123) rfl rfl Try.func34 (by kernel_rfl) rfl #[.agg #[.int .i64 ((rd_T29 l1 x10_3).f0), .string ((rd_T29 l1 x10_3).f1), .string ((rd_T29 l1 x10_3).f2), .int .i64 ((rd_T29 l1 x10_3).f3), .slice A152_4 ((rd_T29 l1 x10_3).f4).length c152_4], .int .i64 0] rfl (by (try simp only [List.map_toArray, List.map_cons, List.map_nil]); first | done | rfl | (simp only [List.length_drop, List.length_take]; rfl)) ?_; (with_reducible refine (quoinlaw11_parts.calls k3 ((rd_T29 l1 x10_3).f0) ((rd_T29 l1 x10_3).f1) ((rd_T29 l1 x10_3).f2) ((rd_T29 l1 x10_3).f3) _ _ ((rd_T29 l1 x10_3).f4) 0 t153 _ ?side1 ?side2 A62.out).mono ?_); (case side1 => repeat (first | exact (Kd.C_below HR152_4.out HB.out) | (with_reducible refine Kd.C_alloc ?_ _) | (with_reducible refine Kd.C_drewN ?_ _) | (with_reducible refine Kd.C_drew ?_))); (case side2 => exact HC152_4.out); rintro e w64 ⟨rfl, hb⟩; refine ⟨_, rfl, ?_⟩; have n0_ := Aside0.mk (blk_below (g := gb139) (o := .cells #[.slice A0_0 l0_0.length c0_0, .slice A0_1 l0_1.length c0_1, .slice A0_2 l0_2.length c0_2, .slice A0_3 l0_3.length c0_3, .slice A0_4 l0_4.length c0_4] 27 (0, 0)) (by (with_reducible repeat (first | refine blk_drewN ?_ _ | refine blk_drew ?_ | refine blk_alloc ?_ _)); exact BK139.out) hb); have n1_ := Aside0.mk (below_step (by repeat (first | (with_reducible first | exact HB.out | apply below_alloc | apply pw_below_drewN | apply below_drew1 | refine below_set ?_ GE139.out) | exact HB.out)) hb); clear BK139; clear HB; have BK139 := n0_; have HB := n1_; clear n0_ n1_; (try clear hb); (try clear hb2); (try clear hk); (try clear hi)))
                        go_ret
                        exact ⟨by first | rfl | (simp [errW_none, errW_some] <;> rfl) | (simp [*, errW_none, errW_some] <;> rfl), by repeat (first | (with_reducible first | exact HB.out | apply below_alloc | apply pw_below_drewN | apply below_drew1 | refine below_set ?_ GE139.out) | exact HB.out)⟩
                      · rw [if_neg c63] at H
                        have c63b0 : decide (60 < t153) = false := decide_eq_false c63
                        clear c63
                        have H' := Aside0.mk H
                        clear H
                        have p152 : 0 ≤ (x10_3 : Int) := of_decide_eq_true (by first | (with_reducible assumption) | assumption)
                        have q152 : x10_3 < (l1.length : Int) := of_decide_eq_true (by first | (with_reducible assumption) | assumption)
                        obtain ⟨ad152, A152_4, c152_4, e152, hx152_0, hx152_1, hx152_2, hx152_3, hx152_4, hl152_4, hi152_4⟩ := at_T29 HR1.out x10_3 p152 q152
                        cases e152
                        replace hx152_0 := (HB.out.cell (World.block_lt_of_cell? w _ hx152_0)).trans hx152_0
                        replace hx152_1 := (HB.out.cell (World.block_lt_of_cell? w _ hx152_1)).trans hx152_1
                        replace hx152_2 := (HB.out.cell (World.block_lt_of_cell? w _ hx152_2)).trans hx152_2
                        replace hx152_3 := (HB.out.cell (World.block_lt_of_cell? w _ hx152_3)).trans hx152_3
                        replace hx152_4 := (HB.out.cell (World.block_lt_of_cell? w _ hx152_4)).trans hx152_4
                        have HR152_4 := Aside0.mk hi152_4
                        have HC152_4 := Aside0.mk hl152_4
                        clear hi152_4 hl152_4
                        replace p152 := eq_true p152
                        replace q152 := eq_true q152
                        go_wp2_with (first | ((with_reducible refine gate_callee (f := 34) rfl ?_); refine goesL_ (some 123) rfl rfl Try.func34 (by kernel_rfl) rfl #[.agg #[.int .i64 ((rd_T29 l1 x10_3).f0), .string ((rd_T29 l1 x10_3).f1), .string ((rd_T29 l1 x10_3).f2), .int .i64 ((rd_T29 l1 x10_3).f3), .slice A152_4 ((rd_T29 l1 x10_3).f4).length c152_4], .int .i64 0] rfl (by (try simp only [List.map_toArray, List.map_cons, List.map_nil]); first | done | rfl | (simp only [List.length_drop, List.length_take]; rfl)) ?_; (with_reducible refine (quoinlaw11_parts.calls k3 ((rd_T29 l1 x10_3).f0) ((rd_T29 l1 x10_3).f1) ((rd_T29 l1 x10_3).f2) ((rd_T29 l1 x10_3).f3) _ _ ((rd_T29 l1 x10_3).f4) 0 t153 _ ?side1 ?side2 A62.out).mono ?_); (case side1 => repeat (first | exact (Kd.C_below HR152_4.out HB.out) | (with_reducible refine Kd.C_alloc ?_ _) | (with_reducible refine Kd.C_drewN ?_ _) | (with_reducible refine Kd.C_drew ?_))); (case side2 => exact HC152_4.out); rintro e w65 ⟨rfl, hb⟩; refine ⟨_, rfl, ?_⟩; have n0_ := Aside0.mk (blk_below (g := gb139) (o := .cells #[.slice A0_0 l0_0.length c0_0, .slice A0_1 l0_1.length c0_1, .slice A0_2 l0_2.length c0_2, .slice A0_3 l0_3.length c0_3, .slice A0_4 l0_4.length c0_4] 27 (0, 0)) (by (with_reducible repeat (first | refine blk_drewN ?_ _ | refine blk_drew ?_ | refine blk_alloc ?_ _)); exact BK139.out) hb); have n1_ := Aside0.mk (below_step (by repeat (first | (with_reducible first | exact HB.out | apply below_alloc | apply pw_below_drewN | apply below_drew1 | refine below_set ?_ GE139.out) | exact HB.out)) hb); clear BK139; clear HB; have BK139 := n0_; have HB := n1_; clear n0_ n1_; (try clear hb); (try clear hb2); (try clear hk); (try clear hi)))
                        go_roundg k3
                        case measure => have := HJ2.out; have := HK2.out; have := HK3.out; omega
                        case rel => exact ⟨(wrap64 (x10_3 + 1)), (by first | rfl | (simp; done) | (simp [*]; done)), H', ⟨by have := HJ2.out; have := HK2.out; have := HK3.out; omega⟩, ⟨by (with_reducible repeat (first | refine blk_drewN ?_ _ | refine blk_drew ?_ | refine blk_alloc ?_ _)); exact BK139.out⟩, ⟨by repeat (first | (with_reducible first | exact HB.out | apply below_alloc | apply pw_below_drewN | apply below_drew1 | refine below_set ?_ GE139.out) | exact HB.out)⟩⟩
                    · rw [if_neg c61] at H
                      exact absurd H (by simp)
                  · rw [if_neg c60] at H
                    have c60b0 : decide (x10_3 < (l1.length : Int)) = false := decide_eq_false c60
                    clear c60
                    obtain rfl := Option.some.inj H
                    go_wp2
                    go_ret
                    exact ⟨by first | rfl | (simp [errW_none, errW_some] <;> rfl) | (simp [*, errW_none, errW_some] <;> rfl), by repeat (first | (with_reducible first | exact HB.out | apply below_alloc | apply pw_below_drewN | apply below_drew1 | refine below_set ?_ GE139.out) | exact HB.out)⟩

end Go.Proofs.Ytbhagjhhgmmcgaa.PRef
