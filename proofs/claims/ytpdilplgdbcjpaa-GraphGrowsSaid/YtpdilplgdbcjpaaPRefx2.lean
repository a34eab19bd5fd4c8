-- Written by a program (the kit's print.py over several roots); not typed by hand.
import Derived.Test.YtpdilplgdbcjpaaPRefx0
import Derived.Test.YtpdilplgdbcjpaaPRefx1
namespace Go.Proofs.Ytpdilplgdbcjpaa.PRef
open Go.RowKit Go.Proofs.YtpdilplgdbcjpaaW.PrintWords Go.Proofs.YtpdilplgdbcjpaaW.PrintLast Go.Proofs.YtpdilplgdbcjpaaW.PrintMore
attribute [local go_sem] max2_int min2_int max_two min_two max_three min_three max_four min_four   -- for this text's walks alone
set_option linter.unusedVariables false
set_option linter.unusedSimpArgs false

/-! ### quoinref08_Ready: function 18 -/
mutual
def quoinref08_Ready.l0 : Nat → List (S36) → List ByteArray → List ByteArray → List ByteArray → Int → Option (List ByteArray)
  | 0, _, _, _, _, _ => none
  | k + 1, x0, x1, x5, x6, x7 => if x7 < (x0.length : Int) then (if 0 ≤ x7 then ((quoinref08_Has.f k x1 ((rd_T36 x0 x7).f0)).bind fun t144 => (quoinref08_Ready.l1 k x0 x1 x5 x6 x7 (!t144) 0)) else (none)) else (some x6)
def quoinref08_Ready.l1 : Nat → List (S36) → List ByteArray → List ByteArray → List ByteArray → Int → Bool → Int → Option (List ByteArray)
  | 0, _, _, _, _, _, _, _ => none
  | k + 1, x0, x1, x5, x6, x7, x8, x9 => if 0 ≤ x7 then (if x7 < (x0.length : Int) then (if x9 < (((rd_T36 x0 x7).f1).length : Int) then (quoinref08_Ready.j2 k x0 x1 x5 x6 x7 x8 x9 x8) else (quoinref08_Ready.j2 k x0 x1 x5 x6 x7 x8 x9 false)) else (none)) else (none)
def quoinref08_Ready.j2 : Nat → List (S36) → List ByteArray → List ByteArray → List ByteArray → Int → Bool → Int → Bool → Option (List ByteArray)
  | 0, _, _, _, _, _, _, _, _ => none
  | k + 1, x0, x1, x5, x6, x7, x8, x9, x39 => if x39 = true then (if 0 ≤ x7 then (if x7 < (x0.length : Int) then (if 0 ≤ x9 then (if x9 < (((rd_T36 x0 x7).f1).length : Int) then ((quoinref08_Has.f k x5 (rdOf ByteArray.empty ((rd_T36 x0 x7).f1) x9)).bind fun t152 => (if t152 = true then ((quoinref08_Has.f k x1 (rdOf ByteArray.empty ((rd_T36 x0 x7).f1) x9)).bind fun t155 => (quoinref08_Ready.l1 k x0 x1 x5 x6 x7 t155 (wrap64 (x9 + 1)))) else (quoinref08_Ready.l1 k x0 x1 x5 x6 x7 x8 (wrap64 (x9 + 1))))) else (none)) else (none)) else (none)) else (none)) else (if x8 = true then (if 0 ≤ x7 then (if x7 < (x0.length : Int) then ((quoinref08_With.f k x6 ((rd_T36 x0 x7).f0)).bind fun t147 => (quoinref08_Ready.l0 k x0 x1 x5 t147 (wrap64 (x7 + 1)))) else (none)) else (none)) else (quoinref08_Ready.l0 k x0 x1 x5 x6 (wrap64 (x7 + 1))))
end
def quoinref08_Ready.f (k : Nat) (l0 : List (S36)) (l1 : List ByteArray) : Option (List ByteArray) := (quoinref08_Nodes.f k l0).bind fun t137 => ((quoinref08_Names.f k t137).bind fun t140 => (quoinref08_Ready.l0 k t137 l1 t140 ([] : List ByteArray) 0))
theorem quoinref08_Ready.mono_l : ∀ k, (∀ y0 y1 y2 y3 y4, LeO (quoinref08_Ready.l0 k y0 y1 y2 y3 y4) (quoinref08_Ready.l0 (k + 1) y0 y1 y2 y3 y4)) ∧ (∀ y0 y1 y2 y3 y4 y5 y6, LeO (quoinref08_Ready.l1 k y0 y1 y2 y3 y4 y5 y6) (quoinref08_Ready.l1 (k + 1) y0 y1 y2 y3 y4 y5 y6)) ∧ (∀ y0 y1 y2 y3 y4 y5 y6 y7, LeO (quoinref08_Ready.j2 k y0 y1 y2 y3 y4 y5 y6 y7) (quoinref08_Ready.j2 (k + 1) y0 y1 y2 y3 y4 y5 y6 y7))
  | 0 => ⟨fun _ _ _ _ _ r h => by simp [quoinref08_Ready.l0] at h, fun _ _ _ _ _ _ _ r h => by simp [quoinref08_Ready.l1] at h, fun _ _ _ _ _ _ _ _ r h => by simp [quoinref08_Ready.j2] at h⟩
  | k + 1 => by
    obtain ⟨ih0, ih1, ih2⟩ := quoinref08_Ready.mono_l k
    refine ⟨?_, ?_, ?_⟩
    · intro y0 y1 y2 y3 y4
      unfold quoinref08_Ready.l0
      repeat' first
      | (with_reducible exact ih0 _ _ _ _ _)
      | (with_reducible exact ih1 _ _ _ _ _ _ _)
      | (with_reducible exact ih2 _ _ _ _ _ _ _ _)
      | (with_reducible exact quoinref08_Has.mono _ _ _)
      | (with_reducible exact quoinref08_Names.mono _ _)
      | (with_reducible exact quoinref08_Nodes.mono _ _)
      | (with_reducible exact quoinref08_With.mono _ _ _)
      | (with_reducible exact LeO.refl _)
      | (with_reducible exact LeO.none _)
      | (with_reducible refine LeO.ite ?_ ?_)
      | (with_reducible refine LeO.bind ?_ (fun _ => ?_))
      | exact ih0 _ _ _ _ _
      | exact ih1 _ _ _ _ _ _ _
      | exact ih2 _ _ _ _ _ _ _ _
      | exact quoinref08_Has.mono _ _ _
      | exact quoinref08_Names.mono _ _
      | exact quoinref08_Nodes.mono _ _
      | exact quoinref08_With.mono _ _ _
      | exact LeO.none _
      | refine LeO.ite ?_ ?_
      | refine LeO.bind ?_ (fun _ => ?_)
    · intro y0 y1 y2 y3 y4 y5 y6
      unfold quoinref08_Ready.l1
      repeat' first
      | (with_reducible exact ih0 _ _ _ _ _)
      | (with_reducible exact ih1 _ _ _ _ _ _ _)
      | (with_reducible exact ih2 _ _ _ _ _ _ _ _)
      | (with_reducible exact quoinref08_Has.mono _ _ _)
      | (with_reducible exact quoinref08_Names.mono _ _)
      | (with_reducible exact quoinref08_Nodes.mono _ _)
      | (with_reducible exact quoinref08_With.mono _ _ _)
      | (with_reducible exact LeO.refl _)
      | (with_reducible exact LeO.none _)
      | (with_reducible refine LeO.ite ?_ ?_)
      | (with_reducible refine LeO.bind ?_ (fun _ => ?_))
      | exact ih0 _ _ _ _ _
      | exact ih1 _ _ _ _ _ _ _
      | exact ih2 _ _ _ _ _ _ _ _
      | exact quoinref08_Has.mono _ _ _
      | exact quoinref08_Names.mono _ _
      | exact quoinref08_Nodes.mono _ _
      | exact quoinref08_With.mono _ _ _
      | exact LeO.none _
      | refine LeO.ite ?_ ?_
      | refine LeO.bind ?_ (fun _ => ?_)
    · intro y0 y1 y2 y3 y4 y5 y6 y7
      unfold quoinref08_Ready.j2
      repeat' first
      | (with_reducible exact ih0 _ _ _ _ _)
      | (with_reducible exact ih1 _ _ _ _ _ _ _)
      | (with_reducible exact ih2 _ _ _ _ _ _ _ _)
      | (with_reducible exact quoinref08_Has.mono _ _ _)
      | (with_reducible exact quoinref08_Names.mono _ _)
      | (with_reducible exact quoinref08_Nodes.mono _ _)
      | (with_reducible exact quoinref08_With.mono _ _ _)
      | (with_reducible exact LeO.refl _)
      | (with_reducible exact LeO.none _)
      | (with_reducible refine LeO.ite ?_ ?_)
      | (with_reducible refine LeO.bind ?_ (fun _ => ?_))
      | exact ih0 _ _ _ _ _
      | exact ih1 _ _ _ _ _ _ _
      | exact ih2 _ _ _ _ _ _ _ _
      | exact quoinref08_Has.mono _ _ _
      | exact quoinref08_Names.mono _ _
      | exact quoinref08_Nodes.mono _ _
      | exact quoinref08_With.mono _ _ _
      | exact LeO.none _
      | refine LeO.ite ?_ ?_
      | refine LeO.bind ?_ (fun _ => ?_)
theorem quoinref08_Ready.mono : ∀ a0 a1 k, LeO (quoinref08_Ready.f k a0 a1) (quoinref08_Ready.f (k + 1) a0 a1) := by
  intro a0 a1 k
  obtain ⟨ih0, ih1, ih2⟩ := quoinref08_Ready.mono_l k
  unfold quoinref08_Ready.f
  repeat' first
      | (with_reducible exact ih0 _ _ _ _ _)
      | (with_reducible exact ih1 _ _ _ _ _ _ _)
      | (with_reducible exact ih2 _ _ _ _ _ _ _ _)
      | (with_reducible exact quoinref08_Has.mono _ _ _)
      | (with_reducible exact quoinref08_Names.mono _ _)
      | (with_reducible exact quoinref08_Nodes.mono _ _)
      | (with_reducible exact quoinref08_With.mono _ _ _)
      | (with_reducible exact LeO.refl _)
      | (with_reducible exact LeO.none _)
      | (with_reducible refine LeO.ite ?_ ?_)
      | (with_reducible refine LeO.bind ?_ (fun _ => ?_))
      | exact ih0 _ _ _ _ _
      | exact ih1 _ _ _ _ _ _ _
      | exact ih2 _ _ _ _ _ _ _ _
      | exact quoinref08_Has.mono _ _ _
      | exact quoinref08_Names.mono _ _
      | exact quoinref08_Nodes.mono _ _
      | exact quoinref08_With.mono _ _ _
      | exact LeO.none _
      | refine LeO.ite ?_ ?_
      | refine LeO.bind ?_ (fun _ => ?_)
set_option maxHeartbeats 8000000 in
set_option maxRecDepth 100000 in
theorem quoinref08_Ready.calls (k : Nat) (A0 : Option Addr) (c0 : Nat) (l0 : List (S36)) (A1 : Option Addr) (c1 : Nat) (l1 : List ByteArray) (r : List ByteArray) (w : World) (hr0 : Kd.C k36 w A0 l0.length l0) (hc0 : l0.length ≤ c0) (hr1 : Kd.C Kd.string w A1 l1.length l1) (hc1 : l1.length ≤ c1) (h : quoinref08_Ready.f k l0 l1 = some r) :
    Calls Try.prog 18 #[.slice A0 l0.length c0, .slice A1 l1.length c1] w fun e w' => ∃ v0_ : Value, e = .returned (v0_) ∧ Kd.R Kd.string 9 w' w.heap.size (fun _ => True) v0_ r ∧ Below w.heap.size w w' := by
  have HR0 := Aside0.mk hr0
  have HC0 := Aside0.mk hc0
  clear hr0 hc0
  have HR1 := Aside0.mk hr1
  have HC1 := Aside0.mk hc1
  clear hr1 hc1
  have HB := Aside0.mk (Below.refl w.heap.size w)
  have H : ((quoinref08_Nodes.f k l0).bind fun t137 => ((quoinref08_Names.f k t137).bind fun t140 => (quoinref08_Ready.l0 k t137 l1 t140 ([] : List ByteArray) 0))) = some r := h
  clear h
  replace H := Option.bind_eq_some_iff.mp H
  obtain ⟨t137, A30, H⟩ := H
  replace H : ((quoinref08_Names.f k t137).bind fun t140 => (quoinref08_Ready.l0 k t137 l1 t140 ([] : List ByteArray) 0)) = some r := H
  have A3 := Aside0.mk A30
  clear A30
  replace H := Option.bind_eq_some_iff.mp H
  obtain ⟨t140, A40, H⟩ := H
  replace H : (quoinref08_Ready.l0 k t137 l1 t140 ([] : List ByteArray) 0) = some r := H
  have A4 := Aside0.mk A40
  clear A40
  have H' := Aside0.mk H
  clear H
  go_enter Try.func18, Try.ntmps18
  go_wp2_with (first | ((with_reducible refine gate_callee (f := 26) rfl ?_); refine goesL_ (some 12) rfl rfl Try.func26 (by kernel_rfl) rfl #[.slice A0 l0.length c0] rfl (by (try simp only [List.map_toArray, List.map_cons, List.map_nil]); first | done | rfl | (simp only [List.length_drop, List.length_take]; rfl)) ?_; (with_reducible refine (quoinref08_Nodes.calls k (fun k_ => k_ < w.heap.size) _ _ l0 t137 _ ?side1 A3.out).mono ?_); (case side1 => exact Kd.V_mk HC0.out (Kd.F_below (Kd.C_F k36_heap HR0.out) (by repeat (first | (with_reducible first | exact HB.out | apply below_alloc | apply pw_below_drewN | apply below_drew1) | exact HB.out)))); rintro e w5 ⟨v138, rfl, ho0, hb⟩; refine ⟨_, rfl, ?_⟩; have n0_ := Aside0.mk (Kd.N_lower (Kd.N_mono (ok' := fun k_ => True) ho0 (fun k_ hk_ => trivial)) (below_size (by repeat (first | (with_reducible first | exact HB.out | apply below_alloc | apply pw_below_drewN | apply below_drew1) | exact HB.out)))); have n1_ := Aside0.mk (below_step (by repeat (first | (with_reducible first | exact HB.out | apply below_alloc | apply pw_below_drewN | apply below_drew1) | exact HB.out)) hb); clear HB; have HO139 := n0_; have HB := n1_; clear n0_ n1_; (try clear hb); (try clear hb2); (try clear hk); (try clear hi); (try clear ho0); obtain ⟨Ao6, co6, eo6⟩ := Kd.N_slice HO139.out; subst eo6) | ((with_reducible refine gate_callee (f := 22) rfl ?_); refine goesL_ (some 14) rfl rfl Try.func22 (by kernel_rfl) rfl #[.slice Ao6 t137.length co6] rfl (by (try simp only [List.map_toArray, List.map_cons, List.map_nil]); first | done | rfl | (simp only [List.length_drop, List.length_take]; rfl)) ?_; (with_reducible refine (quoinref08_Names.calls k _ _ t137 t140 _ ?side1 ?side2 A4.out).mono ?_); (case side1 => repeat (first | exact (Kd.N_reads' HO139.out).2.2 | (with_reducible refine Kd.C_alloc ?_ _) | (with_reducible refine Kd.C_drewN ?_ _) | (with_reducible refine Kd.C_drew ?_))); (case side2 => exact (Kd.N_reads' HO139.out).2.1); rintro e w7 ⟨v141, rfl, ho0, hb⟩; refine ⟨_, rfl, ?_⟩; have n0_ := Aside0.mk (Kd.N_elder' (by (with_reducible repeat (first | apply Kd.N_alloc | apply Kd.N_drewN | apply Kd.N_drew)); exact HO139.out) (Kd.R_base ho0) hb); have n1_ := Aside0.mk (Kd.R_lower ho0 (below_size (by repeat (first | (with_reducible first | exact HB.out | apply below_alloc | apply pw_below_drewN | apply below_drew1) | exact HB.out)))); have n2_ := Aside0.mk (below_step (by repeat (first | (with_reducible first | exact HB.out | apply below_alloc | apply pw_below_drewN | apply below_drew1) | exact HB.out)) hb); clear HO139; clear HB; have HO139 := n0_; have HO142 := n1_; have HB := n2_; clear n0_ n1_ n2_; (try clear hb); (try clear hb2); (try clear hk); (try clear hi); (try clear ho0)))
  go_loopg [6, 7] k (fun kq v6 v7 w' => ∃ (x6_1 : List ByteArray) (x7_1 : Int), v7 = .int .i64 x7_1 ∧ Aside0 (quoinref08_Ready.l0 kq t137 l1 t140 x6_1 x7_1 = some r) ∧ Aside0 (kq ≤ k) ∧ Aside0 (Kd.N k36 36 w' w.heap.size (fun k_ => some k_ ≠ (v141 : Value).ownBlock ∧ some k_ ≠ (v6 : Value).ownBlock) (.slice Ao6 t137.length co6) t137) ∧ Aside0 (Kd.R Kd.string 9 w' w.heap.size (fun k_ => some k_ ≠ (v6 : Value).ownBlock) v141 t140) ∧ Aside0 (Kd.R Kd.string 9 w' w.heap.size (fun k_ => some k_ ≠ (v141 : Value).ownBlock) v6 x6_1) ∧ Aside0 (Below w.heap.size w w'))
  case atStart => exact ⟨(([] : List ByteArray)), (0), (by first | rfl | (simp; done) | (simp [*]; done)), H', ⟨Nat.le_refl _⟩, ⟨by (with_reducible repeat (first | apply Kd.N_alloc | apply Kd.N_drewN | apply Kd.N_drew)); exact Kd.N_mono HO139.out (fun _ hk => ⟨hk.2, (by simp [Value.ownBlock])⟩)⟩, ⟨by (with_reducible repeat (first | apply Kd.R_alloc | apply Kd.R_drewN | apply Kd.R_drew)); exact Kd.R_mono HO142.out (fun _ hk => (by simp [Value.ownBlock]))⟩, ⟨by first | exact Kd.R_nil _ _ _ _ _ | exact Kd.N_nil _ _ _ _ _ | exact Kd.V_nil _ _ _ _ _ | exact Kd.Q_nil _ _ _ _ _ | exact Kd.S_nil _ _ _ _ _⟩, ⟨by repeat (first | (with_reducible first | exact HB.out | apply below_alloc | apply pw_below_drewN | apply below_drew1) | exact HB.out)⟩⟩
  case round =>
    clear H'
    try clear c1
    try clear c2
    try clear p2
    obtain ⟨x6_1, x7_1, rfl, HA, HK1, HO_0, HO_5, HO_6, HB⟩ := hrel
    cases gk with
    | zero => exact absurd HA.out (by simp [quoinref08_Ready.l0])
    | succ k1 =>
      have H := HA.out
      clear HA
      simp only [quoinref08_Ready.l0] at H
      by_cases c8 : x7_1 < (t137.length : Int)
      · rw [if_pos c8] at H
        have c8b0 : decide (x7_1 < (t137.length : Int)) = true := decide_eq_true c8
        clear c8
        by_cases c9 : 0 ≤ x7_1
        · rw [if_pos c9] at H
          have c9b0 : decide (0 ≤ x7_1) = true := decide_eq_true c9
          clear c9
          replace H := Option.bind_eq_some_iff.mp H
          obtain ⟨t144, A100, H⟩ := H
          replace H : (quoinref08_Ready.l1 k1 t137 l1 t140 x6_1 x7_1 (!t144) 0) = some r := H
          have A10 := Aside0.mk A100
          clear A100
          have H' := Aside0.mk H
          clear H
          have p143 : 0 ≤ (x7_1 : Int) := of_decide_eq_true (by first | (with_reducible assumption) | assumption)
          have q143 : x7_1 < (t137.length : Int) := of_decide_eq_true (by first | (with_reducible assumption) | assumption)
          obtain ⟨ad143, A143_1, c143_1, e143, hx143_0, hx143_1, hl143_1, hi143_1⟩ := at_T36 (Kd.N_reads' HO_0.out).2.2 x7_1 p143 q143
          cases e143
          obtain ⟨ce143, hce143, hMe143, hcc143⟩ := Kd.N_get HO_0.out z36 x7_1 p143 (by first | exact q143 | exact of_decide_eq_true (by first | (with_reducible assumption) | assumption) | (have e_ := (Kd.N_reads' HO_0.out).1; omega))
          obtain ⟨ua143_1, uc143_1, rfl, ul143_1, ge143_1⟩ := k36_openF hMe143
          have hv143_1 := hcc143 1 _ rfl
          rw [add_field _ _ 1 (by omega)] at hv143_1
          replace hv143_1 := Option.some.inj (hv143_1.symm.trans hx143_1)
          injection hv143_1 with hva_ hvn_ hvc_
          rw [hva_] at ge143_1
          rw [hvc_] at ul143_1
          have HL143_1 := Aside0.mk (show Kd.V Kd.string 9 _ w.heap.size _ _ ((rd_T36 t137 x7_1).f1) from Kd.V_mk ul143_1 ge143_1)
          clear hva_ hvn_ hvc_ ge143_1 ul143_1
          clear hcc143 hce143
          have HR143_1 := Aside0.mk hi143_1
          have HC143_1 := Aside0.mk hl143_1
          clear hi143_1 hl143_1
          replace p143 := eq_true p143
          replace q143 := eq_true q143
          go_wp2_with (first | ((with_reducible refine gate_callee (f := 27) rfl ?_); refine goesL_ (some 27) rfl rfl Try.func27 (by kernel_rfl) rfl #[.slice A1 l1.length c1, .string ((rd_T36 t137 x7_1).f0)] rfl (by (try simp only [List.map_toArray, List.map_cons, List.map_nil]); first | done | rfl | (simp only [List.length_drop, List.length_take]; rfl)) ?_; (with_reducible refine (quoinref08_Has.calls k1 _ _ l1 ((rd_T36 t137 x7_1).f0) t144 _ ?side1 ?side2 A10.out).mono ?_); (case side1 => repeat (first | exact (Kd.C_below HR1.out HB.out) | (with_reducible refine Kd.C_alloc ?_ _) | (with_reducible refine Kd.C_drewN ?_ _) | (with_reducible refine Kd.C_drew ?_))); (case side2 => exact HC1.out); rintro e w' ⟨rfl, ⟨nd, rfl⟩⟩; refine ⟨_, rfl, ?_⟩))
          go_loopg [8, 9] k1 (fun kq v8 v9 w' => ∃ (x8_2 : Bool) (x9_2 : Int), v8 = .bool x8_2 ∧ v9 = .int .i64 x9_2 ∧ Aside0 (quoinref08_Ready.l1 kq t137 l1 t140 x6_1 x7_1 x8_2 x9_2 = some r) ∧ Aside0 (kq ≤ k1) ∧ Aside0 (Kd.N k36 36 w' w.heap.size (fun k_ => some k_ ≠ (v141 : Value).ownBlock ∧ some k_ ≠ (u6 : Value).ownBlock) (.slice (some ad143) t137.length co6) t137) ∧ Aside0 (Kd.R Kd.string 9 w' w.heap.size (fun k_ => some k_ ≠ (u6 : Value).ownBlock) v141 t140) ∧ Aside0 (Kd.R Kd.string 9 w' w.heap.size (fun k_ => some k_ ≠ (v141 : Value).ownBlock) u6 x6_1) ∧ Aside0 (Kd.C Kd.string w' A143_1 ((rd_T36 t137 x7_1).f1).length ((rd_T36 t137 x7_1).f1)) ∧ Aside0 (Below w.heap.size w w'))
          case atStart => exact ⟨(!t144), (0), (by first | rfl | (simp; done) | (simp [*]; done)), (by first | rfl | (simp; done) | (simp [*]; done)), H', ⟨Nat.le_refl _⟩, ⟨by (with_reducible repeat (first | apply Kd.N_alloc | apply Kd.N_drewN | apply Kd.N_drew)); exact HO_0.out⟩, ⟨by (with_reducible repeat (first | apply Kd.R_alloc | apply Kd.R_drewN | apply Kd.R_drew)); exact HO_5.out⟩, ⟨by (with_reducible repeat (first | apply Kd.R_alloc | apply Kd.R_drewN | apply Kd.R_drew)); exact HO_6.out⟩, ⟨by repeat (first | (with_reducible exact HR143_1.out) | (with_reducible refine Kd.C_alloc ?_ _) | (with_reducible refine Kd.C_drewN ?_ _) | (with_reducible refine Kd.C_drew ?_) | exact HR143_1.out)⟩, ⟨by repeat (first | (with_reducible first | exact HB.out | apply below_alloc | apply pw_below_drewN | apply below_drew1) | exact HB.out)⟩⟩
          case round =>
            clear H'
            try clear c1
            try clear p1
            try clear q1
            try clear hx1
            try clear c2
            try clear p2
            try clear c8
            try clear c8b0
            try clear c9
            try clear c9b0
            try clear hx143_0
            try clear hx143_1
            try clear p143
            try clear p2
            try clear q143
            obtain ⟨x8_2, x9_2, rfl, rfl, HA, HK2, HO_0, HO_5, HO_6, HR143_1, HB⟩ := hrel
            cases gk with
            | zero => exact absurd HA.out (by simp [quoinref08_Ready.l1])
            | succ k2 =>
              have H := HA.out
              clear HA
              simp only [quoinref08_Ready.l1] at H
              have HC11 := Aside0.mk H
              clear H
              go_upto_region 9 with (fail)
              go_cut [39] (fun v39 wc => ∃ (kq : Nat) (x39_10 : Bool), v39 = .bool x39_10 ∧ Aside0 (quoinref08_Ready.j2 kq t137 l1 t140 x6_1 x7_1 x8_2 x9_2 x39_10 = some r) ∧ Aside0 (kq ≤ k2) ∧ Aside0 (Kd.N k36 36 wc w.heap.size (fun k_ => some k_ ≠ (v141 : Value).ownBlock ∧ some k_ ≠ (u6 : Value).ownBlock) (.slice (some ad143) t137.length co6) t137) ∧ Aside0 (Kd.R Kd.string 9 wc w.heap.size (fun k_ => some k_ ≠ (u6 : Value).ownBlock) v141 t140) ∧ Aside0 (Kd.R Kd.string 9 wc w.heap.size (fun k_ => some k_ ≠ (v141 : Value).ownBlock) u6 x6_1) ∧ Aside0 (Kd.C Kd.string wc A143_1 ((rd_T36 t137 x7_1).f1).length ((rd_T36 t137 x7_1).f1)) ∧ Aside0 (Below w.heap.size w wc))
              case first =>
                have H := HC11.out
                clear HC11
                by_cases c12 : 0 ≤ x7_1
                · rw [if_pos c12] at H
                  have c12b0 : decide (0 ≤ x7_1) = true := decide_eq_true c12
                  clear c12
                  (first | rw [c12b0] | (simp only [i64_w, i32_w]; rw [c12b0]) | skip)
                  by_cases c13 : x7_1 < (t137.length : Int)
                  · rw [if_pos c13] at H
                    have c13b0 : decide (x7_1 < (t137.length : Int)) = true := decide_eq_true c13
                    clear c13
                    by_cases c14 : x9_2 < (((rd_T36 t137 x7_1).f1).length : Int)
                    · rw [if_pos c14] at H
                      have c14b0 : decide (x9_2 < (((rd_T36 t137 x7_1).f1).length : Int)) = true := decide_eq_true c14
                      clear c14
                      have H' := Aside0.mk H
                      clear H
                      have p145 : 0 ≤ (x7_1 : Int) := of_decide_eq_true (by first | (with_reducible assumption) | assumption)
                      have q145 : x7_1 < (t137.length : Int) := of_decide_eq_true (by first | (with_reducible assumption) | assumption)
                      obtain ⟨ad145, A145_1, c145_1, e145, hx145_0, hx145_1, hl145_1, hi145_1⟩ := at_T36 (Kd.N_reads' HO_0.out).2.2 x7_1 p145 q145
                      obtain rfl : ad143 = ad145 := (by injection e145)
                      obtain ⟨ce145, hce145, hMe145, hcc145⟩ := Kd.N_get HO_0.out z36 x7_1 p145 (by first | exact q145 | exact of_decide_eq_true (by first | (with_reducible assumption) | assumption) | (have e_ := (Kd.N_reads' HO_0.out).1; omega))
                      obtain ⟨ua145_1, uc145_1, rfl, ul145_1, ge145_1⟩ := k36_openF hMe145
                      have hv145_1 := hcc145 1 _ rfl
                      rw [add_field _ _ 1 (by omega)] at hv145_1
                      replace hv145_1 := Option.some.inj (hv145_1.symm.trans hx145_1)
                      injection hv145_1 with hva_ hvn_ hvc_
                      rw [hva_] at ge145_1
                      rw [hvc_] at ul145_1
                      have HL145_1 := Aside0.mk (show Kd.V Kd.string 9 _ w.heap.size _ _ ((rd_T36 t137 x7_1).f1) from Kd.V_mk ul145_1 ge145_1)
                      clear hva_ hvn_ hvc_ ge145_1 ul145_1
                      clear hcc145 hce145
                      have HR145_1 := Aside0.mk hi145_1
                      have HC145_1 := Aside0.mk hl145_1
                      clear hi145_1 hl145_1
                      replace p145 := eq_true p145
                      replace q145 := eq_true q145
                      go_wp2
                      go_meet
                      case rel => exact ⟨_, (x8_2), (by first | rfl | (simp; done) | (simp [*]; done)), H', ⟨by have := HK1.out; have := HK2.out; first | omega | exact Nat.le_refl _⟩, ⟨by (with_reducible repeat (first | apply Kd.N_alloc | apply Kd.N_drewN | apply Kd.N_drew)); exact HO_0.out⟩, ⟨by (with_reducible repeat (first | apply Kd.R_alloc | apply Kd.R_drewN | apply Kd.R_drew)); exact HO_5.out⟩, ⟨by (with_reducible repeat (first | apply Kd.R_alloc | apply Kd.R_drewN | apply Kd.R_drew)); exact HO_6.out⟩, ⟨by repeat (first | (with_reducible exact HR143_1.out) | (with_reducible refine Kd.C_alloc ?_ _) | (with_reducible refine Kd.C_drewN ?_ _) | (with_reducible refine Kd.C_drew ?_) | exact HR143_1.out)⟩, ⟨by repeat (first | (with_reducible first | exact HB.out | apply below_alloc | apply pw_below_drewN | apply below_drew1) | exact HB.out)⟩⟩
                    · rw [if_neg c14] at H
                      have c14b0 : decide (x9_2 < (((rd_T36 t137 x7_1).f1).length : Int)) = false := decide_eq_false c14
                      clear c14
                      have H' := Aside0.mk H
                      clear H
                      have p145 : 0 ≤ (x7_1 : Int) := of_decide_eq_true (by first | (with_reducible assumption) | assumption)
                      have q145 : x7_1 < (t137.length : Int) := of_decide_eq_true (by first | (with_reducible assumption) | assumption)
                      obtain ⟨ad145, A145_1, c145_1, e145, hx145_0, hx145_1, hl145_1, hi145_1⟩ := at_T36 (Kd.N_reads' HO_0.out).2.2 x7_1 p145 q145
                      obtain rfl : ad143 = ad145 := (by injection e145)
                      obtain ⟨ce145, hce145, hMe145, hcc145⟩ := Kd.N_get HO_0.out z36 x7_1 p145 (by first | exact q145 | exact of_decide_eq_true (by first | (with_reducible assumption) | assumption) | (have e_ := (Kd.N_reads' HO_0.out).1; omega))
                      obtain ⟨ua145_1, uc145_1, rfl, ul145_1, ge145_1⟩ := k36_openF hMe145
                      have hv145_1 := hcc145 1 _ rfl
                      rw [add_field _ _ 1 (by omega)] at hv145_1
                      replace hv145_1 := Option.some.inj (hv145_1.symm.trans hx145_1)
                      injection hv145_1 with hva_ hvn_ hvc_
                      rw [hva_] at ge145_1
                      rw [hvc_] at ul145_1
                      have HL145_1 := Aside0.mk (show Kd.V Kd.string 9 _ w.heap.size _ _ ((rd_T36 t137 x7_1).f1) from Kd.V_mk ul145_1 ge145_1)
                      clear hva_ hvn_ hvc_ ge145_1 ul145_1
                      clear hcc145 hce145
                      have HR145_1 := Aside0.mk hi145_1
                      have HC145_1 := Aside0.mk hl145_1
                      clear hi145_1 hl145_1
                      replace p145 := eq_true p145
                      replace q145 := eq_true q145
                      go_wp2
                      go_meet
                      case rel => exact ⟨_, (false), (by first | rfl | (simp; done) | (simp [*]; done)), H', ⟨by have := HK1.out; have := HK2.out; first | omega | exact Nat.le_refl _⟩, ⟨by (with_reducible repeat (first | apply Kd.N_alloc | apply Kd.N_drewN | apply Kd.N_drew)); exact HO_0.out⟩, ⟨by (with_reducible repeat (first | apply Kd.R_alloc | apply Kd.R_drewN | apply Kd.R_drew)); exact HO_5.out⟩, ⟨by (with_reducible repeat (first | apply Kd.R_alloc | apply Kd.R_drewN | apply Kd.R_drew)); exact HO_6.out⟩, ⟨by repeat (first | (with_reducible exact HR143_1.out) | (with_reducible refine Kd.C_alloc ?_ _) | (with_reducible refine Kd.C_drewN ?_ _) | (with_reducible refine Kd.C_drew ?_) | exact HR143_1.out)⟩, ⟨by repeat (first | (with_reducible first | exact HB.out | apply below_alloc | apply pw_below_drewN | apply below_drew1) | exact HB.out)⟩⟩
                  · rw [if_neg c13] at H
                    exact absurd H (by simp)
                · rw [if_neg c12] at H
                  exact absurd H (by simp)
              case rest =>
                clear HC11
                try clear c1
                try clear p1
                try clear q1
                try clear hx1
                try clear c2
                try clear p2
                try clear c8
                try clear c8b0
                try clear c9
                try clear c9b0
                try clear c12
                try clear c12b0
                try clear c13
                try clear c13b0
                try clear c14
                try clear c14b0
                try clear p14
                try clear q14
                try clear hx14
                try clear hx143_0
                try clear hx143_1
                try clear hx145_0
                try clear hx145_1
                try clear p1
                try clear p143
                try clear p145
                try clear p2
                try clear q1
                try clear q143
                try clear q145
                obtain ⟨kq, x39_10, rfl, HA, HJ10, HO_0, HO_5, HO_6, HR143_1, HB⟩ := hcut
                cases kq with
                | zero => exact absurd HA.out (by simp [quoinref08_Ready.j2])
                | succ kj10 =>
                  have H := HA.out
                  clear HA
                  simp only [quoinref08_Ready.j2] at H
                  by_cases c15 : x39_10 = true
                  · subst c15
                    have H1 : (if 0 ≤ x7_1 then (if x7_1 < (t137.length : Int) then (if 0 ≤ x9_2 then (if x9_2 < (((rd_T36 t137 x7_1).f1).length : Int) then ((quoinref08_Has.f kj10 t140 (rdOf ByteArray.empty ((rd_T36 t137 x7_1).f1) x9_2)).bind fun t152 => (if t152 = true then ((quoinref08_Has.f kj10 l1 (rdOf ByteArray.empty ((rd_T36 t137 x7_1).f1) x9_2)).bind fun t155 => (quoinref08_Ready.l1 kj10 t137 l1 t140 x6_1 x7_1 t155 (wrap64 (x9_2 + 1)))) else (quoinref08_Ready.l1 kj10 t137 l1 t140 x6_1 x7_1 x8_2 (wrap64 (x9_2 + 1))))) else (none)) else (none)) else (none)) else (none)) = some r := by rw [if_pos rfl] at H; exact H
                    clear H
                    have H := H1
                    clear H1
                    by_cases c16 : 0 ≤ x7_1
                    · rw [if_pos c16] at H
                      have c16b0 : decide (0 ≤ x7_1) = true := decide_eq_true c16
                      clear c16
                      by_cases c17 : x7_1 < (t137.length : Int)
                      · rw [if_pos c17] at H
                        have c17b0 : decide (x7_1 < (t137.length : Int)) = true := decide_eq_true c17
                        clear c17
                        by_cases c18 : 0 ≤ x9_2
                        · rw [if_pos c18] at H
                          have c18b0 : decide (0 ≤ x9_2) = true := decide_eq_true c18
                          clear c18
                          by_cases c19 : x9_2 < (((rd_T36 t137 x7_1).f1).length : Int)
                          · rw [if_pos c19] at H
                            have c19b0 : decide (x9_2 < (((rd_T36 t137 x7_1).f1).length : Int)) = true := decide_eq_true c19
                            clear c19
                            replace H := Option.bind_eq_some_iff.mp H
                            obtain ⟨t152, A200, H⟩ := H
                            replace H : (if t152 = true then ((quoinref08_Has.f kj10 l1 (rdOf ByteArray.empty ((rd_T36 t137 x7_1).f1) x9_2)).bind fun t155 => (quoinref08_Ready.l1 kj10 t137 l1 t140 x6_1 x7_1 t155 (wrap64 (x9_2 + 1)))) else (quoinref08_Ready.l1 kj10 t137 l1 t140 x6_1 x7_1 x8_2 (wrap64 (x9_2 + 1)))) = some r := H
                            have A20 := Aside0.mk A200
                            clear A200
                            by_cases c21 : t152 = true
                            · subst c21
                              have H1 : ((quoinref08_Has.f kj10 l1 (rdOf ByteArray.empty ((rd_T36 t137 x7_1).f1) x9_2)).bind fun t155 => (quoinref08_Ready.l1 kj10 t137 l1 t140 x6_1 x7_1 t155 (wrap64 (x9_2 + 1)))) = some r := by rw [if_pos rfl] at H; exact H
                              clear H
                              have H := H1
                              clear H1
                              replace H := Option.bind_eq_some_iff.mp H
                              obtain ⟨t155, A220, H⟩ := H
                              replace H : (quoinref08_Ready.l1 kj10 t137 l1 t140 x6_1 x7_1 t155 (wrap64 (x9_2 + 1))) = some r := H
                              have A22 := Aside0.mk A220
                              clear A220
                              have H' := Aside0.mk H
                              clear H
                              have p150 : 0 ≤ (x7_1 : Int) := of_decide_eq_true (by first | (with_reducible assumption) | assumption)
                              have q150 : x7_1 < (t137.length : Int) := of_decide_eq_true (by first | (with_reducible assumption) | assumption)
                              obtain ⟨ad150, A150_1, c150_1, e150, hx150_0, hx150_1, hl150_1, hi150_1⟩ := at_T36 (Kd.N_reads' HO_0.out).2.2 x7_1 p150 q150
                              obtain rfl : ad143 = ad150 := (by injection e150)
                              obtain ⟨ce150, hce150, hMe150, hcc150⟩ := Kd.N_get HO_0.out z36 x7_1 p150 (by first | exact q150 | exact of_decide_eq_true (by first | (with_reducible assumption) | assumption) | (have e_ := (Kd.N_reads' HO_0.out).1; omega))
                              obtain ⟨ua150_1, uc150_1, rfl, ul150_1, ge150_1⟩ := k36_openF hMe150
                              have hv150_1 := hcc150 1 _ rfl
                              rw [add_field _ _ 1 (by omega)] at hv150_1
                              replace hv150_1 := Option.some.inj (hv150_1.symm.trans hx150_1)
                              injection hv150_1 with hva_ hvn_ hvc_
                              rw [hva_] at ge150_1
                              rw [hvc_] at ul150_1
                              have HL150_1 := Aside0.mk (show Kd.V Kd.string 9 _ w.heap.size _ _ ((rd_T36 t137 x7_1).f1) from Kd.V_mk ul150_1 ge150_1)
                              clear hva_ hvn_ hvc_ ge150_1 ul150_1
                              clear hcc150 hce150
                              have HR150_1 := Aside0.mk hi150_1
                              have HC150_1 := Aside0.mk hl150_1
                              clear hi150_1 hl150_1
                              replace p150 := eq_true p150
                              replace q150 := eq_true q150
                              have p151 : 0 ≤ (x9_2 : Int) := of_decide_eq_true (by first | (with_reducible assumption) | assumption)
                              have q151 : x9_2 < (((rd_T36 t137 x7_1).f1).length : Int) := of_decide_eq_true (by first | (with_reducible assumption) | assumption)
                              obtain ⟨ad151, e151, hx151_0⟩ := Kd.at_string (by repeat (first | (with_reducible exact HR150_1.out) | (with_reducible refine Kd.C_alloc ?_ _) | (with_reducible refine Kd.C_drewN ?_ _) | (with_reducible refine Kd.C_drew ?_) | exact HR150_1.out)) x9_2 p151 q151
                              cases e151
                              replace p151 := eq_true p151
                              replace q151 := eq_true q151
                              obtain ⟨Ao23, co23, eo23⟩ := Kd.R_slice HO_5.out
                              subst eo23
                              go_wp2_with (first | ((with_reducible refine gate_callee (f := 27) rfl ?_); refine goesL_ (some 51) rfl rfl Try.func27 (by kernel_rfl) rfl #[.slice Ao23 t140.length co23, .string (rdOf ByteArray.empty ((rd_T36 t137 x7_1).f1) x9_2)] rfl (by (try simp only [List.map_toArray, List.map_cons, List.map_nil]); first | done | rfl | (simp only [List.length_drop, List.length_take]; rfl)) ?_; (with_reducible refine (quoinref08_Has.calls kj10 _ _ t140 (rdOf ByteArray.empty ((rd_T36 t137 x7_1).f1) x9_2) true _ ?side1 ?side2 A20.out).mono ?_); (case side1 => repeat (first | exact (Kd.R_reads' HO_5.out).2.2 | (with_reducible refine Kd.C_alloc ?_ _) | (with_reducible refine Kd.C_drewN ?_ _) | (with_reducible refine Kd.C_drew ?_))); (case side2 => exact (Kd.R_reads' HO_5.out).2.1); rintro e w' ⟨rfl, ⟨nd, rfl⟩⟩; refine ⟨_, rfl, ?_⟩; have p153 : 0 ≤ (x7_1 : Int) := of_decide_eq_true (by first | (with_reducible assumption) | assumption); have q153 : x7_1 < (t137.length : Int) := of_decide_eq_true (by first | (with_reducible assumption) | assumption); obtain ⟨ad153, A153_1, c153_1, e153, hx153_0, hx153_1, hl153_1, hi153_1⟩ := at_T36 (Kd.N_reads' HO_0.out).2.2 x7_1 p153 q153; obtain rfl : ad143 = ad153 := (by injection e153); obtain ⟨ce153, hce153, hMe153, hcc153⟩ := Kd.N_get HO_0.out z36 x7_1 p153 (by first | exact q153 | exact of_decide_eq_true (by first | (with_reducible assumption) | assumption) | (have e_ := (Kd.N_reads' HO_0.out).1; omega)); obtain ⟨ua153_1, uc153_1, rfl, ul153_1, ge153_1⟩ := k36_openF hMe153; have hv153_1 := hcc153 1 _ rfl; rw [add_field _ _ 1 (by omega)] at hv153_1; replace hv153_1 := Option.some.inj (hv153_1.symm.trans hx153_1); injection hv153_1 with hva_ hvn_ hvc_; rw [hva_] at ge153_1; rw [hvc_] at ul153_1; have HL153_1 := Aside0.mk (show Kd.V Kd.string 9 _ w.heap.size _ _ ((rd_T36 t137 x7_1).f1) from Kd.V_mk ul153_1 ge153_1); clear hva_ hvn_ hvc_ ge153_1 ul153_1; clear hcc153 hce153; have HR153_1 := Aside0.mk hi153_1; have HC153_1 := Aside0.mk hl153_1; clear hi153_1 hl153_1; replace p153 := eq_true p153; replace q153 := eq_true q153; have ea_ := Option.some.inj (hx150_1.symm.trans hx153_1); injection ea_ with ea_ en_ ec_; subst ea_; subst ec_; clear en_; have p154 : 0 ≤ (x9_2 : Int) := of_decide_eq_true (by first | (with_reducible assumption) | assumption); have q154 : x9_2 < (((rd_T36 t137 x7_1).f1).length : Int) := of_decide_eq_true (by first | (with_reducible assumption) | assumption); obtain ⟨ad154, e154, hx154_0⟩ := Kd.at_string (by repeat (first | (with_reducible exact HR153_1.out) | (with_reducible refine Kd.C_alloc ?_ _) | (with_reducible refine Kd.C_drewN ?_ _) | (with_reducible refine Kd.C_drew ?_) | exact HR153_1.out)) x9_2 p154 q154; cases e154; replace p154 := eq_true p154; replace q154 := eq_true q154) | ((with_reducible refine gate_callee (f := 27) rfl ?_); refine goesL_ (some 62) rfl rfl Try.func27 (by kernel_rfl) rfl #[.slice A1 l1.length c1, .string (rdOf ByteArray.empty ((rd_T36 t137 x7_1).f1) x9_2)] rfl (by (try simp only [List.map_toArray, List.map_cons, List.map_nil]); first | done | rfl | (simp only [List.length_drop, List.length_take]; rfl)) ?_; (with_reducible refine (quoinref08_Has.calls kj10 _ _ l1 (rdOf ByteArray.empty ((rd_T36 t137 x7_1).f1) x9_2) t155 _ ?side1 ?side2 A22.out).mono ?_); (case side1 => repeat (first | exact (Kd.C_below HR1.out (by repeat (first | (with_reducible first | exact HB.out | apply below_alloc | apply pw_below_drewN | apply below_drew1) | exact HB.out))) | (with_reducible refine Kd.C_alloc ?_ _) | (with_reducible refine Kd.C_drewN ?_ _) | (with_reducible refine Kd.C_drew ?_))); (case side2 => exact HC1.out); rintro e w' ⟨rfl, ⟨nd, rfl⟩⟩; refine ⟨_, rfl, ?_⟩))
                              go_roundg kj10
                              case measure => have := HK1.out; have := HK2.out; have := HJ10.out; omega
                              case rel => exact ⟨(t155), (wrap64 (x9_2 + 1)), (by first | rfl | (simp; done) | (simp [*]; done)), (by first | rfl | (simp; done) | (simp [*]; done)), H', ⟨by have := HK1.out; have := HK2.out; have := HJ10.out; omega⟩, ⟨by (with_reducible repeat (first | apply Kd.N_alloc | apply Kd.N_drewN | apply Kd.N_drew)); exact HO_0.out⟩, ⟨by (with_reducible repeat (first | apply Kd.R_alloc | apply Kd.R_drewN | apply Kd.R_drew)); exact HO_5.out⟩, ⟨by (with_reducible repeat (first | apply Kd.R_alloc | apply Kd.R_drewN | apply Kd.R_drew)); exact HO_6.out⟩, ⟨by repeat (first | (with_reducible exact HR143_1.out) | (with_reducible refine Kd.C_alloc ?_ _) | (with_reducible refine Kd.C_drewN ?_ _) | (with_reducible refine Kd.C_drew ?_) | exact HR143_1.out)⟩, ⟨by repeat (first | (with_reducible first | exact HB.out | apply below_alloc | apply pw_below_drewN | apply below_drew1) | exact HB.out)⟩⟩
                            · replace c21 := Bool.eq_false_iff.mpr c21
                              subst c21
                              have H1 : (quoinref08_Ready.l1 kj10 t137 l1 t140 x6_1 x7_1 x8_2 (wrap64 (x9_2 + 1))) = some r := by rw [if_neg (show ¬ (false = true) by decide)] at H; exact H
                              clear H
                              have H := H1
                              clear H1
                              have H' := Aside0.mk H
                              clear H
                              have p150 : 0 ≤ (x7_1 : Int) := of_decide_eq_true (by first | (with_reducible assumption) | assumption)
                              have q150 : x7_1 < (t137.length : Int) := of_decide_eq_true (by first | (with_reducible assumption) | assumption)
                              obtain ⟨ad150, A150_1, c150_1, e150, hx150_0, hx150_1, hl150_1, hi150_1⟩ := at_T36 (Kd.N_reads' HO_0.out).2.2 x7_1 p150 q150
                              obtain rfl : ad143 = ad150 := (by injection e150)
                              obtain ⟨ce150, hce150, hMe150, hcc150⟩ := Kd.N_get HO_0.out z36 x7_1 p150 (by first | exact q150 | exact of_decide_eq_true (by first | (with_reducible assumption) | assumption) | (have e_ := (Kd.N_reads' HO_0.out).1; omega))
                              obtain ⟨ua150_1, uc150_1, rfl, ul150_1, ge150_1⟩ := k36_openF hMe150
                              have hv150_1 := hcc150 1 _ rfl
                              rw [add_field _ _ 1 (by omega)] at hv150_1
                              replace hv150_1 := Option.some.inj (hv150_1.symm.trans hx150_1)
                              injection hv150_1 with hva_ hvn_ hvc_
                              rw [hva_] at ge150_1
                              rw [hvc_] at ul150_1
                              have HL150_1 := Aside0.mk (show Kd.V Kd.string 9 _ w.heap.size _ _ ((rd_T36 t137 x7_1).f1) from Kd.V_mk ul150_1 ge150_1)
                              clear hva_ hvn_ hvc_ ge150_1 ul150_1
                              clear hcc150 hce150
                              have HR150_1 := Aside0.mk hi150_1
                              have HC150_1 := Aside0.mk hl150_1
                              clear hi150_1 hl150_1
                              replace p150 := eq_true p150
                              replace q150 := eq_true q150
                              have p151 : 0 ≤ (x9_2 : Int) := of_decide_eq_true (by first | (with_reducible assumption) | assumption)
                              have q151 : x9_2 < (((rd_T36 t137 x7_1).f1).length : Int) := of_decide_eq_true (by first | (with_reducible assumption) | assumption)
                              obtain ⟨ad151, e151, hx151_0⟩ := Kd.at_string (by repeat (first | (with_reducible exact HR150_1.out) | (with_reducible refine Kd.C_alloc ?_ _) | (with_reducible refine Kd.C_drewN ?_ _) | (with_reducible refine Kd.C_drew ?_) | exact HR150_1.out)) x9_2 p151 q151
                              cases e151
                              replace p151 := eq_true p151
                              replace q151 := eq_true q151
                              obtain ⟨Ao24, co24, eo24⟩ := Kd.R_slice HO_5.out
                              subst eo24
                              go_wp2_with (first | ((with_reducible refine gate_callee (f := 27) rfl ?_); refine goesL_ (some 51) rfl rfl Try.func27 (by kernel_rfl) rfl #[.slice Ao24 t140.length co24, .string (rdOf ByteArray.empty ((rd_T36 t137 x7_1).f1) x9_2)] rfl (by (try simp only [List.map_toArray, List.map_cons, List.map_nil]); first | done | rfl | (simp only [List.length_drop, List.length_take]; rfl)) ?_; (with_reducible refine (quoinref08_Has.calls kj10 _ _ t140 (rdOf ByteArray.empty ((rd_T36 t137 x7_1).f1) x9_2) false _ ?side1 ?side2 A20.out).mono ?_); (case side1 => repeat (first | exact (Kd.R_reads' HO_5.out).2.2 | (with_reducible refine Kd.C_alloc ?_ _) | (with_reducible refine Kd.C_drewN ?_ _) | (with_reducible refine Kd.C_drew ?_))); (case side2 => exact (Kd.R_reads' HO_5.out).2.1); rintro e w' ⟨rfl, ⟨nd, rfl⟩⟩; refine ⟨_, rfl, ?_⟩))
                              go_roundg kj10
                              case measure => have := HK1.out; have := HK2.out; have := HJ10.out; omega
                              case rel => exact ⟨(x8_2), (wrap64 (x9_2 + 1)), (by first | rfl | (simp; done) | (simp [*]; done)), (by first | rfl | (simp; done) | (simp [*]; done)), H', ⟨by have := HK1.out; have := HK2.out; have := HJ10.out; omega⟩, ⟨by (with_reducible repeat (first | apply Kd.N_alloc | apply Kd.N_drewN | apply Kd.N_drew)); exact HO_0.out⟩, ⟨by (with_reducible repeat (first | apply Kd.R_alloc | apply Kd.R_drewN | apply Kd.R_drew)); exact HO_5.out⟩, ⟨by (with_reducible repeat (first | apply Kd.R_alloc | apply Kd.R_drewN | apply Kd.R_drew)); exact HO_6.out⟩, ⟨by repeat (first | (with_reducible exact HR143_1.out) | (with_reducible refine Kd.C_alloc ?_ _) | (with_reducible refine Kd.C_drewN ?_ _) | (with_reducible refine Kd.C_drew ?_) | exact HR143_1.out)⟩, ⟨by repeat (first | (with_reducible first | exact HB.out | apply below_alloc | apply pw_below_drewN | apply below_drew1) | exact HB.out)⟩⟩
                          · rw [if_neg c19] at H
                            exact absurd H (by simp)
                        · rw [if_neg c18] at H
                          exact absurd H (by simp)
                      · rw [if_neg c17] at H
                        exact absurd H (by simp)
                    · rw [if_neg c16] at H
                      exact absurd H (by simp)
                  · replace c15 := Bool.eq_false_iff.mpr c15
                    subst c15
                    have H1 : (if x8_2 = true then (if 0 ≤ x7_1 then (if x7_1 < (t137.length : Int) then ((quoinref08_With.f kj10 x6_1 ((rd_T36 t137 x7_1).f0)).bind fun t147 => (quoinref08_Ready.l0 kj10 t137 l1 t140 t147 (wrap64 (x7_1 + 1)))) else (none)) else (none)) else (quoinref08_Ready.l0 kj10 t137 l1 t140 x6_1 (wrap64 (x7_1 + 1)))) = some r := by rw [if_neg (show ¬ (false = true) by decide)] at H; exact H
                    clear H
                    have H := H1
                    clear H1
                    by_cases c25 : x8_2 = true
                    · subst c25
                      have H1 : (if 0 ≤ x7_1 then (if x7_1 < (t137.length : Int) then ((quoinref08_With.f kj10 x6_1 ((rd_T36 t137 x7_1).f0)).bind fun t147 => (quoinref08_Ready.l0 kj10 t137 l1 t140 t147 (wrap64 (x7_1 + 1)))) else (none)) else (none)) = some r := by rw [if_pos rfl] at H; exact H
                      clear H
                      have H := H1
                      clear H1
                      by_cases c26 : 0 ≤ x7_1
                      · rw [if_pos c26] at H
                        have c26b0 : decide (0 ≤ x7_1) = true := decide_eq_true c26
                        clear c26
                        by_cases c27 : x7_1 < (t137.length : Int)
                        · rw [if_pos c27] at H
                          have c27b0 : decide (x7_1 < (t137.length : Int)) = true := decide_eq_true c27
                          clear c27
                          replace H := Option.bind_eq_some_iff.mp H
                          obtain ⟨t147, A280, H⟩ := H
                          replace H : (quoinref08_Ready.l0 kj10 t137 l1 t140 t147 (wrap64 (x7_1 + 1))) = some r := H
                          have A28 := Aside0.mk A280
                          clear A280
                          have H' := Aside0.mk H
                          clear H
                          have p146 : 0 ≤ (x7_1 : Int) := of_decide_eq_true (by first | (with_reducible assumption) | assumption)
                          have q146 : x7_1 < (t137.length : Int) := of_decide_eq_true (by first | (with_reducible assumption) | assumption)
                          obtain ⟨ad146, A146_1, c146_1, e146, hx146_0, hx146_1, hl146_1, hi146_1⟩ := at_T36 (Kd.N_reads' HO_0.out).2.2 x7_1 p146 q146
                          obtain rfl : ad143 = ad146 := (by injection e146)
                          obtain ⟨ce146, hce146, hMe146, hcc146⟩ := Kd.N_get HO_0.out z36 x7_1 p146 (by first | exact q146 | exact of_decide_eq_true (by first | (with_reducible assumption) | assumption) | (have e_ := (Kd.N_reads' HO_0.out).1; omega))
                          obtain ⟨ua146_1, uc146_1, rfl, ul146_1, ge146_1⟩ := k36_openF hMe146
                          have hv146_1 := hcc146 1 _ rfl
                          rw [add_field _ _ 1 (by omega)] at hv146_1
                          replace hv146_1 := Option.some.inj (hv146_1.symm.trans hx146_1)
                          injection hv146_1 with hva_ hvn_ hvc_
                          rw [hva_] at ge146_1
                          rw [hvc_] at ul146_1
                          have HL146_1 := Aside0.mk (show Kd.V Kd.string 9 _ w.heap.size _ _ ((rd_T36 t137 x7_1).f1) from Kd.V_mk ul146_1 ge146_1)
                          clear hva_ hvn_ hvc_ ge146_1 ul146_1
                          clear hcc146 hce146
                          have HR146_1 := Aside0.mk hi146_1
                          have HC146_1 := Aside0.mk hl146_1
                          clear hi146_1 hl146_1
                          replace p146 := eq_true p146
                          replace q146 := eq_true q146
                          obtain ⟨Ao29, co29, eo29⟩ := Kd.R_slice HO_6.out
                          subst eo29
                          go_wp2_with (first | ((with_reducible refine gate_callee (f := 28) rfl ?_); refine goesL_ (some 70) rfl rfl Try.func28 (by kernel_rfl) rfl #[.slice Ao29 x6_1.length co29, .string ((rd_T36 t137 x7_1).f0)] rfl (by (try simp only [List.map_toArray, List.map_cons, List.map_nil]); first | done | rfl | (simp only [List.length_drop, List.length_take]; rfl)) ?_; (with_reducible refine (quoinref08_With.calls kj10 _ _ x6_1 ((rd_T36 t137 x7_1).f0) t147 _ ?side1 ?side2 A28.out).mono ?_); (case side1 => repeat (first | exact (Kd.R_reads' HO_6.out).2.2 | (with_reducible refine Kd.C_alloc ?_ _) | (with_reducible refine Kd.C_drewN ?_ _) | (with_reducible refine Kd.C_drew ?_))); (case side2 => exact (Kd.R_reads' HO_6.out).2.1); rintro e w30 ⟨v148, rfl, ho0, hb⟩; refine ⟨_, rfl, ?_⟩; have n0_ := Aside0.mk (Kd.N_elder' (by (with_reducible repeat (first | apply Kd.N_alloc | apply Kd.N_drewN | apply Kd.N_drew)); exact HO_0.out) (Kd.R_base ho0) hb); have n1_ := Aside0.mk (Kd.R_elder' (by (with_reducible repeat (first | apply Kd.R_alloc | apply Kd.R_drewN | apply Kd.R_drew)); exact HO_5.out) (Kd.R_base ho0) hb); have n2_ := Aside0.mk (Kd.R_elder' (by (with_reducible repeat (first | apply Kd.R_alloc | apply Kd.R_drewN | apply Kd.R_drew)); exact HO_6.out) (Kd.R_base ho0) hb); have n3_ := Aside0.mk (Kd.V_elder' (by (with_reducible repeat (first | apply Kd.V_alloc | apply Kd.V_drewN | apply Kd.V_drew)); exact HL146_1.out) (Kd.R_base ho0) hb); have n4_ := Aside0.mk (Kd.R_lower (Kd.R_new' (Kd.R_new' ho0 (Kd.R_lt (by (with_reducible repeat (first | apply Kd.R_alloc | apply Kd.R_drewN | apply Kd.R_drew)); exact HO_5.out))) (Kd.R_lt (by (with_reducible repeat (first | apply Kd.R_alloc | apply Kd.R_drewN | apply Kd.R_drew)); exact HO_6.out))) (below_size (by repeat (first | (with_reducible first | exact HB.out | apply below_alloc | apply pw_below_drewN | apply below_drew1) | exact HB.out)))); have n5_ := Aside0.mk (Kd.C_below (by repeat (first | (with_reducible exact HR143_1.out) | (with_reducible refine Kd.C_alloc ?_ _) | (with_reducible refine Kd.C_drewN ?_ _) | (with_reducible refine Kd.C_drew ?_) | exact HR143_1.out)) hb); have n6_ := Aside0.mk (Kd.C_below (by repeat (first | (with_reducible exact HR146_1.out) | (with_reducible refine Kd.C_alloc ?_ _) | (with_reducible refine Kd.C_drewN ?_ _) | (with_reducible refine Kd.C_drew ?_) | exact HR146_1.out)) hb); have n7_ := Aside0.mk (below_step (by repeat (first | (with_reducible first | exact HB.out | apply below_alloc | apply pw_below_drewN | apply below_drew1) | exact HB.out)) hb); clear HO_0; clear HO_5; clear HO_6; clear HL146_1; clear HR143_1; clear HR146_1; clear HB; have HO_0 := n0_; have HO_5 := n1_; have HO_6 := n2_; have HL146_1 := n3_; have HO149 := n4_; have HR143_1 := n5_; have HR146_1 := n6_; have HB := n7_; clear n0_ n1_ n2_ n3_ n4_ n5_ n6_ n7_; (try clear hb); (try clear hb2); (try clear hk); (try clear hi); (try clear ho0)))
                          go_roundg kj10
                          case measure => have := HK1.out; have := HK2.out; have := HJ10.out; omega
                          case rel => exact ⟨(t147), (wrap64 (x7_1 + 1)), (by first | rfl | (simp; done) | (simp [*]; done)), H', ⟨by have := HK1.out; have := HK2.out; have := HJ10.out; omega⟩, ⟨by (with_reducible repeat (first | apply Kd.N_alloc | apply Kd.N_drewN | apply Kd.N_drew)); exact Kd.N_mono HO_0.out (fun _ hk => ⟨hk.1.1, hk.2⟩)⟩, ⟨by (with_reducible repeat (first | apply Kd.R_alloc | apply Kd.R_drewN | apply Kd.R_drew)); exact Kd.R_mono HO_5.out (fun _ hk => hk.2)⟩, ⟨by (with_reducible repeat (first | apply Kd.R_alloc | apply Kd.R_drewN | apply Kd.R_drew)); exact Kd.R_mono HO149.out (fun _ hk => hk.1.2)⟩, ⟨by repeat (first | (with_reducible first | exact HB.out | apply below_alloc | apply pw_below_drewN | apply below_drew1) | exact HB.out)⟩⟩
                        · rw [if_neg c27] at H
                          exact absurd H (by simp)
                      · rw [if_neg c26] at H
                        exact absurd H (by simp)
                    · replace c25 := Bool.eq_false_iff.mpr c25
                      subst c25
                      have H1 : (quoinref08_Ready.l0 kj10 t137 l1 t140 x6_1 (wrap64 (x7_1 + 1))) = some r := by rw [if_neg (show ¬ (false = true) by decide)] at H; exact H
                      clear H
                      have H := H1
                      clear H1
                      have H' := Aside0.mk H
                      clear H
                      go_wp2
                      go_roundg kj10
                      case measure => have := HK1.out; have := HK2.out; have := HJ10.out; omega
                      case rel => exact ⟨(x6_1), (wrap64 (x7_1 + 1)), (by first | rfl | (simp; done) | (simp [*]; done)), H', ⟨by have := HK1.out; have := HK2.out; have := HJ10.out; omega⟩, ⟨by (with_reducible repeat (first | apply Kd.N_alloc | apply Kd.N_drewN | apply Kd.N_drew)); exact HO_0.out⟩, ⟨by (with_reducible repeat (first | apply Kd.R_alloc | apply Kd.R_drewN | apply Kd.R_drew)); exact HO_5.out⟩, ⟨by (with_reducible repeat (first | apply Kd.R_alloc | apply Kd.R_drewN | apply Kd.R_drew)); exact HO_6.out⟩, ⟨by repeat (first | (with_reducible first | exact HB.out | apply below_alloc | apply pw_below_drewN | apply below_drew1) | exact HB.out)⟩⟩
        · rw [if_neg c9] at H
          exact absurd H (by simp)
      · rw [if_neg c8] at H
        have c8b0 : decide (x7_1 < (t137.length : Int)) = false := decide_eq_false c8
        clear c8
        obtain rfl := Option.some.inj H
        go_wp2
        go_ret
        exact ⟨_, by first | rfl | (simp [errW_none, errW_some] <;> rfl) | (simp [*, errW_none, errW_some] <;> rfl), by (with_reducible repeat (first | apply Kd.R_alloc | apply Kd.R_drewN | apply Kd.R_drew)); exact Kd.R_mono HO_6.out (fun _ hk => trivial), by repeat (first | (with_reducible first | exact HB.out | apply below_alloc | apply pw_below_drewN | apply below_drew1) | exact HB.out)⟩

end Go.Proofs.Ytpdilplgdbcjpaa.PRef
