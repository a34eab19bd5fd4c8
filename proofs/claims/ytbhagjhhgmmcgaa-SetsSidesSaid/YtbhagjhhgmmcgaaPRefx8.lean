-- Written by a program (the kit's print.py over several roots); not typed by hand.
import Derived.Test.YtbhagjhhgmmcgaaPRefx0
namespace Go.Proofs.Ytbhagjhhgmmcgaa.PRef
open Go.RowKit Go.Proofs.YtbhagjhhgmmcgaaW.PrintWords Go.Proofs.YtbhagjhhgmmcgaaW.PrintLast Go.Proofs.YtbhagjhhgmmcgaaW.PrintMore
attribute [local go_sem] max2_int min2_int max_two min_two max_three min_three max_four min_four   -- for this text's walks alone
set_option linter.unusedVariables false
set_option linter.unusedSimpArgs false

/-! ### quoinlaw11_parts: function 34 -/
mutual
def quoinlaw11_parts.l0 : Nat → Int → Int → Int → ByteArray → ByteArray → Int → List (S29) → Option (Int)
  | 0, _, _, _, _, _, _, _ => none
  | k + 1, x1, x5, x137000, x137001, x137002, x137003, x137004 => if x5 < (x137004.length : Int) then (if x1 ≤ 60 then (if 0 ≤ x5 then ((quoinlaw11_parts.f k ((rd_T29 x137004 x5).f0) ((rd_T29 x137004 x5).f1) ((rd_T29 x137004 x5).f2) ((rd_T29 x137004 x5).f3) ((rd_T29 x137004 x5).f4) x1).bind fun t138 => (quoinlaw11_parts.l0 k t138 (wrap64 (x5 + 1)) x137000 x137001 x137002 x137003 x137004)) else (none)) else (some x1)) else (some x1)
def quoinlaw11_parts.f : Nat → Int → ByteArray → ByteArray → Int → List (S29) → Int → Option (Int)
  | 0, _, _, _, _, _, _ => none
  | k + 1, a0_0, a0_1, a0_2, a0_3, l0_4, a1 => quoinlaw11_parts.l0 k (wrap64 (a1 + 1)) 0 a0_0 a0_1 a0_2 a0_3 l0_4
end
theorem quoinlaw11_parts.mono_l : ∀ k, (∀ y0 y1 y2 y3 y4 y5, LeO (quoinlaw11_parts.f k y0 y1 y2 y3 y4 y5) (quoinlaw11_parts.f (k + 1) y0 y1 y2 y3 y4 y5)) ∧ (∀ y0 y1 y2 y3 y4 y5 y6, LeO (quoinlaw11_parts.l0 k y0 y1 y2 y3 y4 y5 y6) (quoinlaw11_parts.l0 (k + 1) y0 y1 y2 y3 y4 y5 y6))
  | 0 => ⟨fun _ _ _ _ _ _ r h => by simp [quoinlaw11_parts.f] at h, fun _ _ _ _ _ _ _ r h => by simp [quoinlaw11_parts.l0] at h⟩
  | k + 1 => by
    obtain ⟨ih0, ih1⟩ := quoinlaw11_parts.mono_l k
    refine ⟨?_, ?_⟩
    · intro y0 y1 y2 y3 y4 y5
      unfold quoinlaw11_parts.f
      repeat' first
      | (with_reducible exact ih0 _ _ _ _ _ _)
      | (with_reducible exact ih1 _ _ _ _ _ _ _)
      | (with_reducible exact LeO.refl _)
      | (with_reducible exact LeO.none _)
      | (with_reducible refine LeO.ite ?_ ?_)
      | (with_reducible refine LeO.bind ?_ (fun _ => ?_))
      | exact ih0 _ _ _ _ _ _
      | exact ih1 _ _ _ _ _ _ _
      | exact LeO.none _
      | refine LeO.ite ?_ ?_
      | refine LeO.bind ?_ (fun _ => ?_)
    · intro y0 y1 y2 y3 y4 y5 y6
      unfold quoinlaw11_parts.l0
      repeat' first
      | (with_reducible exact ih0 _ _ _ _ _ _)
      | (with_reducible exact ih1 _ _ _ _ _ _ _)
      | (with_reducible exact LeO.refl _)
      | (with_reducible exact LeO.none _)
      | (with_reducible refine LeO.ite ?_ ?_)
      | (with_reducible refine LeO.bind ?_ (fun _ => ?_))
      | exact ih0 _ _ _ _ _ _
      | exact ih1 _ _ _ _ _ _ _
      | exact LeO.none _
      | refine LeO.ite ?_ ?_
      | refine LeO.bind ?_ (fun _ => ?_)
theorem quoinlaw11_parts.mono : ∀ a0 a1 a2 a3 a4 a5 k, LeO (quoinlaw11_parts.f k a0 a1 a2 a3 a4 a5) (quoinlaw11_parts.f (k + 1) a0 a1 a2 a3 a4 a5) := by
  intro a0 a1 a2 a3 a4 a5 k
  obtain ⟨ih0, ih1⟩ := quoinlaw11_parts.mono_l k
  exact ih0 a0 a1 a2 a3 a4 a5
set_option maxHeartbeats 8000000 in
set_option maxRecDepth 100000 in
theorem quoinlaw11_parts.calls (k : Nat) : ∀ (a0_0 : Int) (a0_1 : ByteArray) (a0_2 : ByteArray) (a0_3 : Int) (A0_4 : Option Addr) (c0_4 : Nat) (l0_4 : List (S29)) (a1 : Int) (r : Int) (w : World) (hr0_4 : Kd.C k29 w A0_4 l0_4.length l0_4) (hc0_4 : l0_4.length ≤ c0_4) (h : quoinlaw11_parts.f k a0_0 a0_1 a0_2 a0_3 l0_4 a1 = some r),
    Calls Try.prog 34 #[.agg #[.int .i64 a0_0, .string a0_1, .string a0_2, .int .i64 a0_3, .slice A0_4 l0_4.length c0_4], .int .i64 a1] w fun e w' => e = .returned (.int .i64 r) ∧ Below w.heap.size w w' := by
  induction k using Nat.strongRecOn with
  | _ k ih =>
  intro a0_0 a0_1 a0_2 a0_3 A0_4 c0_4 l0_4 a1 r w hr0_4 hc0_4 h
  cases k with
  | zero => exact absurd h (by simp [quoinlaw11_parts.f])
  | succ k =>
  simp only [quoinlaw11_parts.f] at h
  have hu29 := Try.underlying29
  have HR0_4 := Aside0.mk hr0_4
  have HC0_4 := Aside0.mk hc0_4
  clear hr0_4 hc0_4
  have HB := Aside0.mk (Below.refl w.heap.size w)
  have H : (quoinlaw11_parts.l0 k (wrap64 (a1 + 1)) 0 a0_0 a0_1 a0_2 a0_3 l0_4) = some r := h
  clear h
  have H' := Aside0.mk H
  clear H
  go_enter Try.func34, Try.ntmps34
  go_wp2_with (first | ((with_reducible refine gate_dst (N := 2) rfl ?_); refine box_event ?hg (N := 2) ?hd (cs := #[.int .i64 a0_0, .string a0_1, .string a0_2, .int .i64 a0_3, .slice A0_4 l0_4.length c0_4]) (t := 29) ?hr ?_; (case hd => rfl); (case hg => rfl); (case hr => first | (go_simp; done) | (go_simp; rfl)); intro gb136 hg w3 hbox hb; have n0_ := Aside0.mk (below_step (by repeat (first | (with_reducible first | exact HB.out | apply below_alloc | apply pw_below_drewN | apply below_drew1) | exact HB.out)) hb); have n1_ := Aside0.mk (hbox); have n2_ := Aside0.mk ((by rw [hg]; exact (below_size (by repeat (first | (with_reducible first | exact HB.out | apply below_alloc | apply pw_below_drewN | apply below_drew1) | exact HB.out))) : w.heap.size ≤ gb136)); have n3_ := Aside0.mk ((by rw [hg]; exact (below_size (by repeat (first | (with_reducible first | exact HB.out | apply below_alloc | apply pw_below_drewN | apply below_drew1) | exact HB.out))) : w.heap.size ≤ gb136)); clear HB; have HB := n0_; have BK136 := n1_; have GW136 := n2_; have GE136 := n3_; clear n0_ n1_ n2_ n3_; clear hb hbox hg))
  go_loopg [1, 5] k (fun kq v1 v5 w' => ∃ (x1_1 : Int) (x5_1 : Int), v1 = .int .i64 x1_1 ∧ v5 = .int .i64 x5_1 ∧ Aside0 (quoinlaw11_parts.l0 kq x1_1 x5_1 a0_0 a0_1 a0_2 a0_3 l0_4 = some r) ∧ Aside0 (kq ≤ k) ∧ Aside0 (w'.heap[gb136]? = some (.cells #[.int .i64 a0_0, .string a0_1, .string a0_2, .int .i64 a0_3, (.slice A0_4 l0_4.length c0_4)] 29 (0, 0))) ∧ Aside0 (Below w.heap.size w w'))
  case atStart => exact ⟨(wrap64 (a1 + 1)), (0), (by first | rfl | (simp; done) | (simp [*]; done)), (by first | rfl | (simp; done) | (simp [*]; done)), H', ⟨Nat.le_refl _⟩, ⟨by (with_reducible repeat (first | refine blk_drewN ?_ _ | refine blk_drew ?_ | refine blk_alloc ?_ _)); exact BK136.out⟩, ⟨by repeat (first | (with_reducible first | exact HB.out | apply below_alloc | apply pw_below_drewN | apply below_drew1 | refine below_set ?_ GE136.out) | exact HB.out)⟩⟩
  case round =>
    clear H'
    try clear p2
    try clear c3
    obtain ⟨x1_1, x5_1, rfl, rfl, HA, HK1, BK136, HB⟩ := hrel
    cases gk with
    | zero => exact absurd HA.out (by simp [quoinlaw11_parts.l0])
    | succ k1 =>
      have H := HA.out
      clear HA
      simp only [quoinlaw11_parts.l0] at H
      by_cases c4 : x5_1 < (l0_4.length : Int)
      · rw [if_pos c4] at H
        have c4b0 : decide (x5_1 < (l0_4.length : Int)) = true := decide_eq_true c4
        clear c4
        by_cases c5 : x1_1 ≤ 60
        · rw [if_pos c5] at H
          have c5b0 : decide (x1_1 ≤ 60) = true := decide_eq_true c5
          clear c5
          by_cases c6 : 0 ≤ x5_1
          · rw [if_pos c6] at H
            have c6b0 : decide (0 ≤ x5_1) = true := decide_eq_true c6
            clear c6
            replace H := Option.bind_eq_some_iff.mp H
            obtain ⟨t138, A70, H⟩ := H
            replace H : (quoinlaw11_parts.l0 k1 t138 (wrap64 (x5_1 + 1)) a0_0 a0_1 a0_2 a0_3 l0_4) = some r := H
            have A7 := Aside0.mk A70
            clear A70
            have H' := Aside0.mk H
            clear H
            have hcz8_0 : wr.cell? ⟨gb136, 0, none⟩ = some (.int .i64 a0_0) := (blk_cell BK136.out 0).trans rfl
            have hcz8_1 : wr.cell? ⟨gb136, 1, none⟩ = some (.string a0_1) := (blk_cell BK136.out 1).trans rfl
            have hcz8_2 : wr.cell? ⟨gb136, 2, none⟩ = some (.string a0_2) := (blk_cell BK136.out 2).trans rfl
            have hcz8_3 : wr.cell? ⟨gb136, 3, none⟩ = some (.int .i64 a0_3) := (blk_cell BK136.out 3).trans rfl
            have hcz8_4 : wr.cell? ⟨gb136, 4, none⟩ = some (.slice A0_4 l0_4.length c0_4) := (blk_cell BK136.out 4).trans rfl
            have hfz8_0 := blk_frozen BK136.out 0
            have hfz8_1 := blk_frozen BK136.out 1
            have hfz8_2 := blk_frozen BK136.out 2
            have hfz8_3 := blk_frozen BK136.out 3
            have hfz8_4 := blk_frozen BK136.out 4
            have p137 : 0 ≤ (x5_1 : Int) := of_decide_eq_true (by first | (with_reducible assumption) | assumption)
            have q137 : x5_1 < (l0_4.length : Int) := of_decide_eq_true (by first | (with_reducible assumption) | assumption)
            obtain ⟨ad137, A137_4, c137_4, e137, hx137_0, hx137_1, hx137_2, hx137_3, hx137_4, hl137_4, hi137_4⟩ := at_T29 HR0_4.out x5_1 p137 q137
            cases e137
            replace hx137_0 := (HB.out.cell (World.block_lt_of_cell? w _ hx137_0)).trans hx137_0
            replace hx137_1 := (HB.out.cell (World.block_lt_of_cell? w _ hx137_1)).trans hx137_1
            replace hx137_2 := (HB.out.cell (World.block_lt_of_cell? w _ hx137_2)).trans hx137_2
            replace hx137_3 := (HB.out.cell (World.block_lt_of_cell? w _ hx137_3)).trans hx137_3
            replace hx137_4 := (HB.out.cell (World.block_lt_of_cell? w _ hx137_4)).trans hx137_4
            have HR137_4 := Aside0.mk hi137_4
            have HC137_4 := Aside0.mk hl137_4
            clear hi137_4 hl137_4
            replace p137 := eq_true p137
            replace q137 := eq_true q137
            go_wp2_with (first | ((with_reducible refine gate_callee (f := 34) rfl ?_); refine goesL_ (some 25) rfl rfl Try.func34 (by kernel_rfl) rfl #[.agg #[.int .i64 ((rd_T29 l0_4 x5_1).f0), .string ((rd_T29 l0_4 x5_1).f1), .string ((rd_T29 l0_4 x5_1).f2), .int .i64 ((rd_T29 l0_4 x5_1).f3), .slice A137_4 ((rd_T29 l0_4 x5_1).f4).length c137_4], .int .i64 x1_1] rfl (by (try simp only [List.map_toArray, List.map_cons, List.map_nil]); first | done | rfl | (simp only [List.length_drop, List.length_take]; rfl)) ?_; (with_reducible refine (ih k1 (by have := HK1.out; omega) ((rd_T29 l0_4 x5_1).f0) ((rd_T29 l0_4 x5_1).f1) ((rd_T29 l0_4 x5_1).f2) ((rd_T29 l0_4 x5_1).f3) _ _ ((rd_T29 l0_4 x5_1).f4) x1_1 t138 _ ?side1 ?side2 A7.out).mono ?_); (case side1 => repeat (first | exact (Kd.C_below HR137_4.out HB.out) | (with_reducible refine Kd.C_alloc ?_ _) | (with_reducible refine Kd.C_drewN ?_ _) | (with_reducible refine Kd.C_drew ?_))); (case side2 => exact HC137_4.out); rintro e w9 ⟨rfl, hb⟩; refine ⟨_, rfl, ?_⟩; have n0_ := Aside0.mk (blk_below (g := gb136) (o := .cells #[.int .i64 a0_0, .string a0_1, .string a0_2, .int .i64 a0_3, .slice (some ad137) l0_4.length c0_4] 29 (0, 0)) (by (with_reducible repeat (first | refine blk_drewN ?_ _ | refine blk_drew ?_ | refine blk_alloc ?_ _)); exact BK136.out) hb); have n1_ := Aside0.mk (below_step (by repeat (first | (with_reducible first | exact HB.out | apply below_alloc | apply pw_below_drewN | apply below_drew1 | refine below_set ?_ GE136.out) | exact HB.out)) hb); clear BK136; clear HB; have BK136 := n0_; have HB := n1_; clear n0_ n1_; (try clear hb); (try clear hb2); (try clear hk); (try clear hi)))
            go_roundg k1
            case measure => have := HK1.out; omega
            case rel => exact ⟨(t138), (wrap64 (x5_1 + 1)), (by first | rfl | (simp; done) | (simp [*]; done)), (by first | rfl | (simp; done) | (simp [*]; done)), H', ⟨by have := HK1.out; omega⟩, ⟨by (with_reducible repeat (first | refine blk_drewN ?_ _ | refine blk_drew ?_ | refine blk_alloc ?_ _)); exact BK136.out⟩, ⟨by repeat (first | (with_reducible first | exact HB.out | apply below_alloc | apply pw_below_drewN | apply below_drew1 | refine below_set ?_ GE136.out) | exact HB.out)⟩⟩
          · rw [if_neg c6] at H
            exact absurd H (by simp)
        · rw [if_neg c5] at H
          have c5b0 : decide (x1_1 ≤ 60) = false := decide_eq_false c5
          clear c5
          obtain rfl := Option.some.inj H
          have hcz10_0 : wr.cell? ⟨gb136, 0, none⟩ = some (.int .i64 a0_0) := (blk_cell BK136.out 0).trans rfl
          have hcz10_1 : wr.cell? ⟨gb136, 1, none⟩ = some (.string a0_1) := (blk_cell BK136.out 1).trans rfl
          have hcz10_2 : wr.cell? ⟨gb136, 2, none⟩ = some (.string a0_2) := (blk_cell BK136.out 2).trans rfl
          have hcz10_3 : wr.cell? ⟨gb136, 3, none⟩ = some (.int .i64 a0_3) := (blk_cell BK136.out 3).trans rfl
          have hcz10_4 : wr.cell? ⟨gb136, 4, none⟩ = some (.slice A0_4 l0_4.length c0_4) := (blk_cell BK136.out 4).trans rfl
          have hfz10_0 := blk_frozen BK136.out 0
          have hfz10_1 := blk_frozen BK136.out 1
          have hfz10_2 := blk_frozen BK136.out 2
          have hfz10_3 := blk_frozen BK136.out 3
          have hfz10_4 := blk_frozen BK136.out 4
          go_wp2
          go_ret
          exact ⟨by first | rfl | (simp [errW_none, errW_some] <;> rfl) | (simp [*, errW_none, errW_some] <;> rfl), by repeat (first | (with_reducible first | exact HB.out | apply below_alloc | apply pw_below_drewN | apply below_drew1 | refine below_set ?_ GE136.out) | exact HB.out)⟩
      · rw [if_neg c4] at H
        have c4b0 : decide (x5_1 < (l0_4.length : Int)) = false := decide_eq_false c4
        clear c4
        obtain rfl := Option.some.inj H
        have hcz11_0 : wr.cell? ⟨gb136, 0, none⟩ = some (.int .i64 a0_0) := (blk_cell BK136.out 0).trans rfl
        have hcz11_1 : wr.cell? ⟨gb136, 1, none⟩ = some (.string a0_1) := (blk_cell BK136.out 1).trans rfl
        have hcz11_2 : wr.cell? ⟨gb136, 2, none⟩ = some (.string a0_2) := (blk_cell BK136.out 2).trans rfl
        have hcz11_3 : wr.cell? ⟨gb136, 3, none⟩ = some (.int .i64 a0_3) := (blk_cell BK136.out 3).trans rfl
        have hcz11_4 : wr.cell? ⟨gb136, 4, none⟩ = some (.slice A0_4 l0_4.length c0_4) := (blk_cell BK136.out 4).trans rfl
        have hfz11_0 := blk_frozen BK136.out 0
        have hfz11_1 := blk_frozen BK136.out 1
        have hfz11_2 := blk_frozen BK136.out 2
        have hfz11_3 := blk_frozen BK136.out 3
        have hfz11_4 := blk_frozen BK136.out 4
        go_wp2
        go_ret
        exact ⟨by first | rfl | (simp [errW_none, errW_some] <;> rfl) | (simp [*, errW_none, errW_some] <;> rfl), by repeat (first | (with_reducible first | exact HB.out | apply below_alloc | apply pw_below_drewN | apply below_drew1 | refine below_set ?_ GE136.out) | exact HB.out)⟩

end Go.Proofs.Ytbhagjhhgmmcgaa.PRef
