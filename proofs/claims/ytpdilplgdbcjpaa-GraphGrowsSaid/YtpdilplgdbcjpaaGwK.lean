/- awake of graph's statements. -/
import Derived.Test.YtpdilplgdbcjpaaGwJ
namespace Go.Proofs.Ytpdilplgdbcjpaa
open Go.RowKit Go.Maps Go.WideMaps PRef Go.Proofs.YtpdilplgdbcjpaaW.PrintWords Go.Shelf
set_option linter.unusedVariables false

def awG : List Gr.Nd := [⟨[97], [[98]]⟩, ⟨[98], [[97]]⟩, ⟨[99], [[98]]⟩, ⟨[100], []⟩]
theorem awG_nodes : Gr.nodes awG = awG := Gr.nodes_of_nodup (by decide)
theorem awG_order : Gr.orderP awG = [[100]] := by decide
theorem awG_stuck : Gr.stuckP awG = [[97], [98], [99]] := by decide
theorem awG_ready : Gr.readyL awG [] = [[100]] := by decide
theorem awG_users : Gr.usersP awG [98] = [[97], [99]] := by decide
theorem awG_reach {n x : Str} (h : Gr.Reach awG n x) : x = [97] ∨ x = [98] := by
  have key : ∀ n x, x ∈ Gr.impsOf awG n → x = [97] ∨ x = [98] := by
    intro n x hx
    by_cases hn : n ∈ Gr.names awG
    · have : n = [97] ∨ n = [98] ∨ n = [99] ∨ n = [100] := by simpa [awG, Gr.names] using hn
      rcases this with rfl | rfl | rfl | rfl
      · have e : Gr.impsOf awG [97] = [[98]] := by decide
        rw [e] at hx; simp at hx; exact .inr hx
      · have e : Gr.impsOf awG [98] = [[97]] := by decide
        rw [e] at hx; simp at hx; exact .inl hx
      · have e : Gr.impsOf awG [99] = [[98]] := by decide
        rw [e] at hx; simp at hx; exact .inr hx
      · have e : Gr.impsOf awG [100] = [] := by decide
        rw [e] at hx; simp at hx
    · have e : awG.find? (fun d => decide (d.name = n)) = none := List.find?_eq_none.2 (fun d hd => by simp; exact fun e => hn (List.mem_map.2 ⟨d, hd, e⟩))
      unfold Gr.impsOf at hx
      rw [e] at hx
      simp at hx
  cases h with
  | one h => exact key _ _ h
  | more _ h => exact key _ _ h
theorem awG_cyc : Gr.cycP awG = [[97], [98]] := by
  refine (Gr.canon_up _).ext (show Gr.Up [[97], [98]] from ⟨by decide, trivial⟩) fun x => ?_
  show x ∈ Gr.cycP awG ↔ _
  rw [Gr.mem_cycP]
  have r1 : Gr.Reach awG [97] [98] := .one (by decide)
  have r2 : Gr.Reach awG [98] [97] := .one (by decide)
  constructor
  · rintro ⟨_, h⟩
    rcases awG_reach h with rfl | rfl <;> simp
  · intro h
    have : x = [97] ∨ x = [98] := by simpa using h
    rcases this with rfl | rfl
    · exact ⟨by decide, .more r1 (by decide)⟩
    · exact ⟨by decide, .more r2 (by decide)⟩
theorem awG_ok : ∀ d ∈ awG, NdOk d := by
  intro d hd
  have : d = ⟨[97], [[98]]⟩ ∨ d = ⟨[98], [[97]]⟩ ∨ d = ⟨[99], [[98]]⟩ ∨ d = ⟨[100], []⟩ := by simpa [awG] using hd
  rcases this with rfl | rfl | rfl | rfl <;> exact ⟨by decide, by decide, by decide⟩
theorem row_at {W : World} {base : Nat} {v : Value} {l : List Str} (h : W.ownsRow base 9 1 v l.length (l.map encStr)) (hn : 0 < l.length) : ∃ g cap, v = .slice (some ⟨g, 0, none⟩) l.length cap ∧ ∀ j x, l[j]? = some x → W.cell? ⟨g, j, none⟩ = some (.string (ba x)) := by
  obtain ⟨A, c, hv, hc⟩ := own_slice h
  subst hv
  obtain ⟨gb, hA⟩ := row_shape h hn
  subst hA
  refine ⟨gb, c, rfl, fun j x hx => ?_⟩
  rw [h.cellAt j (by have := lt_len hx; omega), List.getElem?_map, hx]
  rfl
theorem one_own {W : World} {g base : Nat} {x : Str} (h : W.heap[g]? = some (.cells #[.string (ba x)] 9 (0, 0))) (hb : base ≤ g) : W.ownsRow base 9 1 (.slice (some ⟨g, 0, none⟩) [x].length 1) [x].length ([x].map encStr) :=
  ⟨rfl, .inr ⟨g, 1, _, rfl, hb, h, Nat.le_refl _, by unfold maxLen; omega, rfl, rfl⟩⟩
/-- The example's nodes as they lie. -/
theorem awG_C {W : World} {h0 h1 h2 h3 : Nat} (b0 : W.heap[h0]? = some (.cells #[.string ⟨#[98]⟩] 9 (0, 0))) (b1 : W.heap[h1]? = some (.cells #[.string ⟨#[97]⟩] 9 (0, 0))) (b2 : W.heap[h2]? = some (.cells #[.string ⟨#[98]⟩] 9 (0, 0)))
    (b3 : W.heap[h3]? = some (.cells #[.string ⟨#[97]⟩, .slice (some ⟨h0, 0, none⟩) 1 1, .string ⟨#[98]⟩, .slice (some ⟨h1, 0, none⟩) 1 1, .string ⟨#[99]⟩, .slice (some ⟨h2, 0, none⟩) 1 1, .string ⟨#[100]⟩, .slice none 0 0] 36 (0, 0))) :
    Kd.C k36 W (some ⟨h3, 0, none⟩) (awG.map ofNd).length (awG.map ofNd) := by
  have one : ∀ {g : Nat} {x : Str}, W.heap[g]? = some (.cells #[.string (ba x)] 9 (0, 0)) → Kd.string.C W (some ⟨g, 0, none⟩) ([x].map ba).length ([x].map ba) := fun {g x} h => by
    obtain ⟨A, c, e, _, hC⟩ := own_C (one_own (base := 0) h (Nat.zero_le _))
    injection e with e1 _ _
    rw [e1]
    exact hC
  have hrow : W.ownsRow 0 36 2 (.slice (some ⟨h3, 0, none⟩) 4 4) 4 (([⟨⟨[97], [[98]]⟩, some ⟨h0, 0, none⟩, 1⟩, ⟨⟨[98], [[97]]⟩, some ⟨h1, 0, none⟩, 1⟩, ⟨⟨[99], [[98]]⟩, some ⟨h2, 0, none⟩, 1⟩, ⟨⟨[100], []⟩, none, 0⟩] : List RN).flatMap rnC) :=
    ⟨rfl, .inr ⟨h3, 4, _, rfl, Nat.zero_le _, b3, Nat.le_refl _, by unfold maxLen; omega, rfl, rfl⟩⟩
  obtain ⟨A, c, e, _, hC⟩ := rn_C hrow (fun r hr => by
    simp only [List.mem_cons, List.not_mem_nil, or_false] at hr
    rcases hr with rfl | rfl | rfl | rfl
    · exact ⟨Nat.le_refl _, one (x := [98]) b0⟩
    · exact ⟨Nat.le_refl _, one (x := [97]) b1⟩
    · exact ⟨Nat.le_refl _, one (x := [98]) b2⟩
    · exact ⟨Nat.le_refl _, Kd.C_nil _ _⟩)
  injection e with e1 _ _
  rw [e1]
  exact hC
theorem C_empty (w : World) : Kd.string.C w none (([] : List Str).map ba).length (([] : List Str).map ba) := Kd.C_nil _ _

theorem new_at (W : World) (o : Obj) (n : Nat) (h : W.heap.size = n) : (W.alloc o).heap[n]? = some o := by subst h; exact blk_new W o
abbrev awW (w : World) : World := (((w.alloc (.cells #[.string ⟨#[98]⟩] 9)).alloc (.cells #[.string ⟨#[97]⟩] 9)).alloc (.cells #[.string ⟨#[98]⟩] 9)).alloc (.cells #[.string ⟨#[97]⟩, .slice (some ⟨w.heap.size, 0, none⟩) 1 1, .string ⟨#[98]⟩, .slice (some ⟨w.heap.size + 1, 0, none⟩) 1 1, .string ⟨#[99]⟩, .slice (some ⟨w.heap.size + 1 + 1, 0, none⟩) 1 1, .string ⟨#[100]⟩, .slice none 0 0] 36)
theorem awW_C (w : World) : Kd.C k36 (awW w) (some ⟨w.heap.size + 1 + 1 + 1, 0, none⟩) (awG.map ofNd).length (awG.map ofNd) ∧ Below w.heap.size w (awW w) :=
  ⟨awG_C (h0 := w.heap.size) (h1 := w.heap.size + 1) (h2 := w.heap.size + 1 + 1) (blk_alloc (blk_alloc (blk_alloc (blk_new w _) _) _) _) (blk_alloc (blk_alloc (new_at _ _ _ (by simp)) _) _) (blk_alloc (new_at _ _ _ (by simp)) _) (new_at _ _ _ (by simp)),
    bel_alloc (bel_alloc (bel_alloc (bel_alloc (Below.refl _ _) _) _) _) _⟩

set_option maxRecDepth 100000 in
set_option maxHeartbeats 4000000 in
theorem awake_any (w : World) : Calls Try.prog 10 #[] w fun e w' => e = .returned (.bool true) ∧ Below w.heap.size w w' := by
  have HW := Lib.hid (awW_C w)
  go_enter Try.func10, Try.ntmps10
  go_wp2_with (fail)
  change Calls Try.prog 12 _ (awW w) _
  generalize awW w = W0 at HW ⊢
  have HO := Lib.hid (gorder_any awG (some ⟨w.heap.size + 1 + 1 + 1, 0, none⟩) 4 W0 W0 HW.out.1 (Below.refl _ _) (Nat.le_refl _) (by decide) awG_ok)
  rw [awG_nodes, awG_order, awG_stuck] at HO
  refine HO.out.mono ?_
  rintro e1 w1 ⟨v1, v2, rfl, hr1, hr2, hb1⟩
  obtain ⟨g1, c1, hv1, x1⟩ := row_at hr1 (by decide)
  obtain ⟨g2, c2, hv2, x2⟩ := row_at hr2 (by decide)
  subst hv1
  subst hv2
  have y1 : w1.cell? ⟨g1, 0, none⟩ = some (.string ⟨#[100]⟩) := x1 0 [100] rfl
  have y2 : w1.cell? ⟨g2, 2, none⟩ = some (.string ⟨#[99]⟩) := x2 2 [99] rfl
  clear hr1 hr2 x1 x2 HO
  have HB1 := Lib.hid hb1
  have HC1 := Lib.hid (Kd.C_below HW.out.1 hb1)
  clear hb1
  have HCY := Lib.hid (gcyclic_any awG (some ⟨w.heap.size + 1 + 1 + 1, 0, none⟩) 4 w1 w1 HC1.out (Below.refl _ _) (Nat.le_refl _) (by decide) awG_ok)
  rw [awG_nodes, awG_cyc] at HCY
  go_wp2_with (fail)
  refine HCY.out.mono ?_
  rintro e2 w2 ⟨v3, rfl, hr3, hb2⟩
  obtain ⟨g3, c3, hv3, x3⟩ := row_at hr3 (by decide)
  subst hv3
  have y3 : w2.cell? ⟨g3, 1, none⟩ = some (.string ⟨#[98]⟩) := x3 1 [98] rfl
  replace y1 := cell_later hb2 y1
  replace y2 := cell_later hb2 y2
  clear hr3 x3 HCY
  have HB2 := Lib.hid (bel_trans HB1.out hb2)
  have HC2 := Lib.hid (Kd.C_below HC1.out hb2)
  clear hb2
  have HRE := Lib.hid (greq_any awG (some ⟨w.heap.size + 1 + 1 + 1, 0, none⟩) 4 [] none 0 w2 w2 HC2.out (Below.refl _ _) (Nat.le_refl _) (by decide) awG_ok (C_empty w2) (Nat.le_refl _) (by decide) (by simp))
  rw [awG_nodes, awG_ready] at HRE
  go_wp2_with (fail)
  refine HRE.out.mono ?_
  rintro e3 w3 ⟨v4, rfl, hr4, hb3⟩
  obtain ⟨g4, c4, hv4, _⟩ := row_at hr4 (by decide)
  subst hv4
  replace y1 := cell_later hb3 y1
  replace y2 := cell_later hb3 y2
  replace y3 := cell_later hb3 y3
  clear hr4 HRE
  have HB3 := Lib.hid (bel_trans HB2.out hb3)
  have HC3 := Lib.hid (Kd.C_below HC2.out hb3)
  clear hb3
  have HUS := Lib.hid (gusers_any awG (some ⟨w.heap.size + 1 + 1 + 1, 0, none⟩) 4 [98] w3 w3 HC3.out (Below.refl _ _) (Nat.le_refl _) (by decide) awG_ok)
  rw [awG_nodes, awG_users] at HUS
  go_wp2_with (fail)
  refine HUS.out.mono ?_
  rintro e4 w4 ⟨v5, rfl, hr5, hb4⟩
  obtain ⟨g5, c5, hv5, x5⟩ := row_at hr5 (by decide)
  subst hv5
  have y5 : w4.cell? ⟨g5, 1, none⟩ = some (.string ⟨#[99]⟩) := x5 1 [99] rfl
  replace y1 := cell_later hb4 y1
  replace y2 := cell_later hb4 y2
  replace y3 := cell_later hb4 y3
  clear hr5 x5 HUS
  have HB4 := Lib.hid (bel_trans HW.out.2 (bel_trans HB3.out hb4))
  clear hb4 HC1 HC2 HC3 HB1 HB2 HB3 HW
  go_wp2_with (fail)
  go_ret
  exact ⟨rfl, HB4.out⟩
end Go.Proofs.Ytpdilplgdbcjpaa
