-- Written by a program (the kit's print.py over several roots); not typed by hand.
import Derived.Test.YtpdilplgdbcjpaaPRefx0
import Derived.Test.YtpdilplgdbcjpaaPRefx1
import Derived.Test.YtpdilplgdbcjpaaPRefx2
namespace Go.Proofs.Ytpdilplgdbcjpaa.PRef
open Go.RowKit Go.Proofs.YtpdilplgdbcjpaaW.PrintWords Go.Proofs.YtpdilplgdbcjpaaW.PrintLast Go.Proofs.YtpdilplgdbcjpaaW.PrintMore
attribute [local go_sem] max2_int min2_int max_two min_two max_three min_three max_four min_four   -- for this text's walks alone
set_option linter.unusedVariables false
set_option linter.unusedSimpArgs false

/-! ### quoinref08_Order: function 13 -/
mutual
def quoinref08_Order.j1 : Nat → List (S36) → List ByteArray → Option (List ByteArray × List ByteArray)
  | 0, _, _ => none
  | k + 1, x0, x4 => quoinref08_Order.l1 k x0 x4 ([] : List ByteArray) 0
def quoinref08_Order.l1 : Nat → List (S36) → List ByteArray → List ByteArray → Int → Option (List ByteArray × List ByteArray)
  | 0, _, _, _, _ => none
  | k + 1, x0, x4, x6, x7 => if x7 < (x0.length : Int) then (if 0 ≤ x7 then ((quoinref08_Has.f k x4 ((rd_T36 x0 x7).f0)).bind fun t167 => (if t167 = true then (quoinref08_Order.l1 k x0 x4 x6 (wrap64 (x7 + 1))) else ((quoinref08_With.f k x6 ((rd_T36 x0 x7).f0)).bind fun t169 => (quoinref08_Order.l1 k x0 x4 t169 (wrap64 (x7 + 1)))))) else (none)) else (some (x4, x6))
def quoinref08_Order.l0 : Nat → List (S36) → List ByteArray → Option (List ByteArray × List ByteArray)
  | 0, _, _ => none
  | k + 1, x0, x4 => if (x4.length : Int) < (x0.length : Int) then ((quoinref08_Ready.f k x0 x4).bind fun t159 => (if (t159.length : Int) = 0 then (quoinref08_Order.j1 k x0 x4) else (if 0 < (t159.length : Int) then (if x4.length < 8796093022208 then (quoinref08_Order.l0 k x0 (x4 ++ [rdOf ByteArray.empty t159 0])) else (none)) else (none)))) else (quoinref08_Order.j1 k x0 x4)
end
def quoinref08_Order.f (k : Nat) (l0 : List (S36)) : Option (List ByteArray × List ByteArray) := (quoinref08_Nodes.f k l0).bind fun t156 => (quoinref08_Order.l0 k t156 ([] : List ByteArray))
theorem quoinref08_Order.mono_l : ∀ k, (∀ y0 y1, LeO (quoinref08_Order.j1 k y0 y1) (quoinref08_Order.j1 (k + 1) y0 y1)) ∧ (∀ y0 y1 y2 y3, LeO (quoinref08_Order.l1 k y0 y1 y2 y3) (quoinref08_Order.l1 (k + 1) y0 y1 y2 y3)) ∧ (∀ y0 y1, LeO (quoinref08_Order.l0 k y0 y1) (quoinref08_Order.l0 (k + 1) y0 y1))
  | 0 => ⟨fun _ _ r h => by simp [quoinref08_Order.j1] at h, fun _ _ _ _ r h => by simp [quoinref08_Order.l1] at h, fun _ _ r h => by simp [quoinref08_Order.l0] at h⟩
  | k + 1 => by
    obtain ⟨ih0, ih1, ih2⟩ := quoinref08_Order.mono_l k
    refine ⟨?_, ?_, ?_⟩
    · intro y0 y1
      unfold quoinref08_Order.j1
      repeat' first
      | (with_reducible exact ih0 _ _)
      | (with_reducible exact ih1 _ _ _ _)
      | (with_reducible exact ih2 _ _)
      | (with_reducible exact quoinref08_Has.mono _ _ _)
      | (with_reducible exact quoinref08_Nodes.mono _ _)
      | (with_reducible exact quoinref08_Ready.mono _ _ _)
      | (with_reducible exact quoinref08_With.mono _ _ _)
      | (with_reducible exact LeO.refl _)
      | (with_reducible exact LeO.none _)
      | (with_reducible refine LeO.ite ?_ ?_)
      | (with_reducible refine LeO.bind ?_ (fun _ => ?_))
      | exact ih0 _ _
      | exact ih1 _ _ _ _
      | exact ih2 _ _
      | exact quoinref08_Has.mono _ _ _
      | exact quoinref08_Nodes.mono _ _
      | exact quoinref08_Ready.mono _ _ _
      | exact quoinref08_With.mono _ _ _
      | exact LeO.none _
      | refine LeO.ite ?_ ?_
      | refine LeO.bind ?_ (fun _ => ?_)
    · intro y0 y1 y2 y3
      unfold quoinref08_Order.l1
      repeat' first
      | (with_reducible exact ih0 _ _)
      | (with_reducible exact ih1 _ _ _ _)
      | (with_reducible exact ih2 _ _)
      | (with_reducible exact quoinref08_Has.mono _ _ _)
      | (with_reducible exact quoinref08_Nodes.mono _ _)
      | (with_reducible exact quoinref08_Ready.mono _ _ _)
      | (with_reducible exact quoinref08_With.mono _ _ _)
      | (with_reducible exact LeO.refl _)
      | (with_reducible exact LeO.none _)
      | (with_reducible refine LeO.ite ?_ ?_)
      | (with_reducible refine LeO.bind ?_ (fun _ => ?_))
      | exact ih0 _ _
      | exact ih1 _ _ _ _
      | exact ih2 _ _
      | exact quoinref08_Has.mono _ _ _
      | exact quoinref08_Nodes.mono _ _
      | exact quoinref08_Ready.mono _ _ _
      | exact quoinref08_With.mono _ _ _
      | exact LeO.none _
      | refine LeO.ite ?_ ?_
      | refine LeO.bind ?_ (fun _ => ?_)
    · intro y0 y1
      unfold quoinref08_Order.l0
      repeat' first
      | (with_reducible exact ih0 _ _)
      | (with_reducible exact ih1 _ _ _ _)
      | (with_reducible exact ih2 _ _)
      | (with_reducible exact quoinref08_Has.mono _ _ _)
      | (with_reducible exact quoinref08_Nodes.mono _ _)
      | (with_reducible exact quoinref08_Ready.mono _ _ _)
      | (with_reducible exact quoinref08_With.mono _ _ _)
      | (with_reducible exact LeO.refl _)
      | (with_reducible exact LeO.none _)
      | (with_reducible refine LeO.ite ?_ ?_)
      | (with_reducible refine LeO.bind ?_ (fun _ => ?_))
      | exact ih0 _ _
      | exact ih1 _ _ _ _
      | exact ih2 _ _
      | exact quoinref08_Has.mono _ _ _
      | exact quoinref08_Nodes.mono _ _
      | exact quoinref08_Ready.mono _ _ _
      | exact quoinref08_With.mono _ _ _
      | exact LeO.none _
      | refine LeO.ite ?_ ?_
      | refine LeO.bind ?_ (fun _ => ?_)
theorem quoinref08_Order.mono : ∀ a0 k, LeO (quoinref08_Order.f k a0) (quoinref08_Order.f (k + 1) a0) := by
  intro a0 k
  obtain ⟨ih0, ih1, ih2⟩ := quoinref08_Order.mono_l k
  unfold quoinref08_Order.f
  repeat' first
      | (with_reducible exact ih0 _ _)
      | (with_reducible exact ih1 _ _ _ _)
      | (with_reducible exact ih2 _ _)
      | (with_reducible exact quoinref08_Has.mono _ _ _)
      | (with_reducible exact quoinref08_Nodes.mono _ _)
      | (with_reducible exact quoinref08_Ready.mono _ _ _)
      | (with_reducible exact quoinref08_With.mono _ _ _)
      | (with_reducible exact LeO.refl _)
      | (with_reducible exact LeO.none _)
      | (with_reducible refine LeO.ite ?_ ?_)
      | (with_reducible refine LeO.bind ?_ (fun _ => ?_))
      | exact ih0 _ _
      | exact ih1 _ _ _ _
      | exact ih2 _ _
      | exact quoinref08_Has.mono _ _ _
      | exact quoinref08_Nodes.mono _ _
      | exact quoinref08_Ready.mono _ _ _
      | exact quoinref08_With.mono _ _ _
      | exact LeO.none _
      | refine LeO.ite ?_ ?_
      | refine LeO.bind ?_ (fun _ => ?_)
set_option maxHeartbeats 8000000 in
set_option maxRecDepth 100000 in
theorem quoinref08_Order.calls (k : Nat) (A0 : Option Addr) (c0 : Nat) (l0 : List (S36)) (r1 : List ByteArray) (r2 : List ByteArray) (w : World) (hr0 : Kd.C k36 w A0 l0.length l0) (hc0 : l0.length ≤ c0) (h : quoinref08_Order.f k l0 = some (r1, r2)) :
    Calls Try.prog 13 #[.slice A0 l0.length c0] w fun e w' => ∃ v0_ v1_ : Value, e = .returned (.tuple #[v0_, v1_]) ∧ Kd.R Kd.string 9 w' w.heap.size (fun k_ => some k_ ≠ (v1_ : Value).ownBlock) v0_ r1 ∧ Kd.R Kd.string 9 w' w.heap.size (fun k_ => some k_ ≠ (v0_ : Value).ownBlock) v1_ r2 ∧ Below w.heap.size w w' := by
  have HR0 := Aside0.mk hr0
  have HC0 := Aside0.mk hc0
  clear hr0 hc0
  have HB := Aside0.mk (Below.refl w.heap.size w)
  have H : ((quoinref08_Nodes.f k l0).bind fun t156 => (quoinref08_Order.l0 k t156 ([] : List ByteArray))) = some (r1, r2) := h
  clear h
  replace H := Option.bind_eq_some_iff.mp H
  obtain ⟨t156, A20, H⟩ := H
  replace H : (quoinref08_Order.l0 k t156 ([] : List ByteArray)) = some (r1, r2) := H
  have A2 := Aside0.mk A20
  clear A20
  have HC3 := Aside0.mk H
  clear H
  go_enter Try.func13, Try.ntmps13
  go_upto_block 0 with (first | ((with_reducible refine gate_callee (f := 26) rfl ?_); refine goesL_ (some 10) rfl rfl Try.func26 (by kernel_rfl) rfl #[.slice A0 l0.length c0] rfl (by (try simp only [List.map_toArray, List.map_cons, List.map_nil]); first | done | rfl | (simp only [List.length_drop, List.length_take]; rfl)) ?_; (with_reducible refine (quoinref08_Nodes.calls k (fun k_ => k_ < w.heap.size) _ _ l0 t156 _ ?side1 A2.out).mono ?_); (case side1 => exact Kd.V_mk HC0.out (Kd.F_below (Kd.C_F k36_heap HR0.out) (by repeat (first | (with_reducible first | exact HB.out | apply below_alloc | apply pw_below_drewN | apply below_drew1) | exact HB.out)))); rintro e w4 ⟨v157, rfl, ho0, hb⟩; refine ⟨_, rfl, ?_⟩; have n0_ := Aside0.mk (Kd.N_lower (Kd.N_mono (ok' := fun k_ => True) ho0 (fun k_ hk_ => trivial)) (below_size (by repeat (first | (with_reducible first | exact HB.out | apply below_alloc | apply pw_below_drewN | apply below_drew1) | exact HB.out)))); have n1_ := Aside0.mk (below_step (by repeat (first | (with_reducible first | exact HB.out | apply below_alloc | apply pw_below_drewN | apply below_drew1) | exact HB.out)) hb); clear HB; have HO158 := n0_; have HB := n1_; clear n0_ n1_; (try clear hb); (try clear hb2); (try clear hk); (try clear hi); (try clear ho0)))
  (try simp only [Act.put, List.setIfInBounds_toArray, List.set_cons_zero, List.set_cons_succ])
  go_cut [4] (fun v4 wc => ∃ (kq : Nat) (x4_2 : List ByteArray), Aside0 (quoinref08_Order.j1 kq t156 x4_2 = some (r1, r2)) ∧ Aside0 (kq ≤ k) ∧ Aside0 (Kd.N k36 36 wc w.heap.size (fun k_ => some k_ ≠ (v4 : Value).ownBlock) v157 t156) ∧ Aside0 (Kd.R Kd.string 9 wc w.heap.size (fun _ => True) v4 x4_2) ∧ Aside0 (Below w.heap.size w wc))
  case first =>
    have H := HC3.out
    clear HC3
    have H' := Aside0.mk H
    clear H
    go_wp2
    go_loopg [4] k (fun kq v4 w' => ∃ (x4_1 : List ByteArray), Aside0 (quoinref08_Order.l0 kq t156 x4_1 = some (r1, r2)) ∧ Aside0 (kq ≤ k) ∧ Aside0 (Kd.N k36 36 w' w.heap.size (fun k_ => some k_ ≠ (v4 : Value).ownBlock) v157 t156) ∧ Aside0 (Kd.R Kd.string 9 w' w.heap.size (fun _ => True) v4 x4_1) ∧ Aside0 (Below w.heap.size w w'))
    case atStart => exact ⟨(([] : List ByteArray)), H', ⟨Nat.le_refl _⟩, ⟨by (with_reducible repeat (first | apply Kd.N_alloc | apply Kd.N_drewN | apply Kd.N_drew)); exact Kd.N_mono HO158.out (fun _ hk => (by simp [Value.ownBlock]))⟩, ⟨by first | exact Kd.R_nil _ _ _ _ _ | exact Kd.N_nil _ _ _ _ _ | exact Kd.V_nil _ _ _ _ _ | exact Kd.Q_nil _ _ _ _ _ | exact Kd.S_nil _ _ _ _ _⟩, ⟨by repeat (first | (with_reducible first | exact HB.out | apply below_alloc | apply pw_below_drewN | apply below_drew1) | exact HB.out)⟩⟩
    case round =>
      clear H'
      try clear c1
      try clear c2
      try clear p2
      obtain ⟨x4_1, HA, HK1, HO_0, HO_4, HB⟩ := hrel
      cases gk with
      | zero => exact absurd HA.out (by simp [quoinref08_Order.l0])
      | succ k1 =>
        have H := HA.out
        clear HA
        simp only [quoinref08_Order.l0] at H
        by_cases c5 : (x4_1.length : Int) < (t156.length : Int)
        · rw [if_pos c5] at H
          have c5b0 : decide ((x4_1.length : Int) < (t156.length : Int)) = true := decide_eq_true c5
          have c5b1 : decide (x4_1.length < t156.length) = true := decide_eq_true (Int.ofNat_lt.mp c5)
          clear c5
          (first | rw [c5b0] | (simp only [i64_w, i32_w]; rw [c5b0]) | skip)
          replace H := Option.bind_eq_some_iff.mp H
          obtain ⟨t159, A60, H⟩ := H
          replace H : (if (t159.length : Int) = 0 then (quoinref08_Order.j1 k1 t156 x4_1) else (if 0 < (t159.length : Int) then (if x4_1.length < 8796093022208 then (quoinref08_Order.l0 k1 t156 (x4_1 ++ [rdOf ByteArray.empty t159 0])) else (none)) else (none))) = some (r1, r2) := H
          have A6 := Aside0.mk A60
          clear A60
          by_cases c7 : (t159.length : Int) = 0
          · rw [if_pos c7] at H
            have c7b0 : ((t159.length : Int) == 0) = true := beq_iff_eq.mpr c7
            have c7b1 : ((t159.length : Int) != 0) = false := bne_eq_false_iff_eq.mpr c7
            clear c7
            have H' := Aside0.mk H
            clear H
            obtain ⟨Ao8, co8, eo8⟩ := Kd.R_slice HO_4.out
            subst eo8
            obtain ⟨Ao9, co9, eo9⟩ := Kd.N_slice HO_0.out
            subst eo9
            go_wp2_with (first | ((with_reducible refine gate_callee (f := 18) rfl ?_); refine goesL_ (some 18) rfl rfl Try.func18 (by kernel_rfl) rfl #[.slice Ao9 t156.length co9, .slice Ao8 x4_1.length co8] rfl (by (try simp only [List.map_toArray, List.map_cons, List.map_nil]); first | done | rfl | (simp only [List.length_drop, List.length_take]; rfl)) ?_; (with_reducible refine (quoinref08_Ready.calls k1 _ _ t156 _ _ x4_1 t159 _ ?side1 ?side2 ?side3 ?side4 A6.out).mono ?_); (case side1 => repeat (first | exact (Kd.N_reads' HO_0.out).2.2 | (with_reducible refine Kd.C_alloc ?_ _) | (with_reducible refine Kd.C_drewN ?_ _) | (with_reducible refine Kd.C_drew ?_))); (case side2 => exact (Kd.N_reads' HO_0.out).2.1); (case side3 => repeat (first | exact (Kd.R_reads' HO_4.out).2.2 | (with_reducible refine Kd.C_alloc ?_ _) | (with_reducible refine Kd.C_drewN ?_ _) | (with_reducible refine Kd.C_drew ?_))); (case side4 => exact (Kd.R_reads' HO_4.out).2.1); rintro e w10 ⟨v160, rfl, ho0, hb⟩; refine ⟨_, rfl, ?_⟩; have n0_ := Aside0.mk (Kd.N_elder' (by (with_reducible repeat (first | apply Kd.N_alloc | apply Kd.N_drewN | apply Kd.N_drew)); exact HO_0.out) (Kd.R_base ho0) hb); have n1_ := Aside0.mk (Kd.R_elder' (by (with_reducible repeat (first | apply Kd.R_alloc | apply Kd.R_drewN | apply Kd.R_drew)); exact HO_4.out) (Kd.R_base ho0) hb); have n2_ := Aside0.mk (Kd.R_lower (Kd.R_new' ho0 (Kd.R_lt (by (with_reducible repeat (first | apply Kd.R_alloc | apply Kd.R_drewN | apply Kd.R_drew)); exact HO_4.out))) (below_size (by repeat (first | (with_reducible first | exact HB.out | apply below_alloc | apply pw_below_drewN | apply below_drew1) | exact HB.out)))); have n3_ := Aside0.mk (below_step (by repeat (first | (with_reducible first | exact HB.out | apply below_alloc | apply pw_below_drewN | apply below_drew1) | exact HB.out)) hb); clear HO_0; clear HO_4; clear HB; have HO_0 := n0_; have HO_4 := n1_; have HO161 := n2_; have HB := n3_; clear n0_ n1_ n2_ n3_; (try clear hb); (try clear hb2); (try clear hk); (try clear hi); (try clear ho0); obtain ⟨Ao11, co11, eo11⟩ := Kd.R_slice HO161.out; subst eo11))
            go_meet
            case rel => exact ⟨_, (x4_1), H', ⟨by have := HK1.out; first | omega | exact Nat.le_refl _⟩, ⟨by (with_reducible repeat (first | apply Kd.N_alloc | apply Kd.N_drewN | apply Kd.N_drew)); exact Kd.N_mono HO_0.out (fun _ hk => hk.1)⟩, ⟨by (with_reducible repeat (first | apply Kd.R_alloc | apply Kd.R_drewN | apply Kd.R_drew)); exact Kd.R_mono HO_4.out (fun _ hk => trivial)⟩, ⟨by repeat (first | (with_reducible first | exact HB.out | apply below_alloc | apply pw_below_drewN | apply below_drew1) | exact HB.out)⟩⟩
          · rw [if_neg c7] at H
            have c7b0 : ((t159.length : Int) == 0) = false := beq_eq_false_iff_ne.mpr c7
            have c7b1 : ((t159.length : Int) != 0) = true := bne_iff_ne.mpr c7
            have c7b2 : ¬ (t159 = []) := fun h_ => c7 (by rw [h_]; rfl)
            by_cases c12 : 0 < (t159.length : Int)
            · rw [if_pos c12] at H
              have c12b0 : decide (0 < (t159.length : Int)) = true := decide_eq_true c12
              have c12b1 : decide (0 < t159.length) = true := decide_eq_true (by omega)
              clear c12
              by_cases c13 : x4_1.length < 8796093022208
              · rw [if_pos c13] at H
                have LMc13 := Aside0.mk c13
                clear c13
                obtain ⟨y163, hy163⟩ : ∃ y_ : List ByteArray, y_ = (x4_1 ++ [rdOf ByteArray.empty t159 0]) := ⟨_, rfl⟩
                replace H : (quoinref08_Order.l0 k1 t156 y163) = some (r1, r2) := by first | (rw [hy163]; with_reducible exact H) | (have H2_ := (Option.bind_some _ _).symm.trans H; rw [hy163]; with_reducible exact H2_) | (have H2_ := (Option.bind_some _ _).symm.trans H; with_reducible exact H2_) | with_reducible exact H | (rw [hy163]; exact H) | exact H
                have Ny163 := Aside0.mk hy163
                clear hy163
                have H' := Aside0.mk H
                clear H
                obtain ⟨Ao14, co14, eo14⟩ := Kd.R_slice HO_4.out
                subst eo14
                obtain ⟨Ao15, co15, eo15⟩ := Kd.N_slice HO_0.out
                subst eo15
                go_wp2_with (first | ((with_reducible refine gate_callee (f := 18) rfl ?_); refine goesL_ (some 18) rfl rfl Try.func18 (by kernel_rfl) rfl #[.slice Ao15 t156.length co15, .slice Ao14 x4_1.length co14] rfl (by (try simp only [List.map_toArray, List.map_cons, List.map_nil]); first | done | rfl | (simp only [List.length_drop, List.length_take]; rfl)) ?_; (with_reducible refine (quoinref08_Ready.calls k1 _ _ t156 _ _ x4_1 t159 _ ?side1 ?side2 ?side3 ?side4 A6.out).mono ?_); (case side1 => repeat (first | exact (Kd.N_reads' HO_0.out).2.2 | (with_reducible refine Kd.C_alloc ?_ _) | (with_reducible refine Kd.C_drewN ?_ _) | (with_reducible refine Kd.C_drew ?_))); (case side2 => exact (Kd.N_reads' HO_0.out).2.1); (case side3 => repeat (first | exact (Kd.R_reads' HO_4.out).2.2 | (with_reducible refine Kd.C_alloc ?_ _) | (with_reducible refine Kd.C_drewN ?_ _) | (with_reducible refine Kd.C_drew ?_))); (case side4 => exact (Kd.R_reads' HO_4.out).2.1); rintro e w16 ⟨v160, rfl, ho0, hb⟩; refine ⟨_, rfl, ?_⟩; have n0_ := Aside0.mk (Kd.N_elder' (by (with_reducible repeat (first | apply Kd.N_alloc | apply Kd.N_drewN | apply Kd.N_drew)); exact HO_0.out) (Kd.R_base ho0) hb); have n1_ := Aside0.mk (Kd.R_elder' (by (with_reducible repeat (first | apply Kd.R_alloc | apply Kd.R_drewN | apply Kd.R_drew)); exact HO_4.out) (Kd.R_base ho0) hb); have n2_ := Aside0.mk (Kd.R_lower (Kd.R_new' ho0 (Kd.R_lt (by (with_reducible repeat (first | apply Kd.R_alloc | apply Kd.R_drewN | apply Kd.R_drew)); exact HO_4.out))) (below_size (by repeat (first | (with_reducible first | exact HB.out | apply below_alloc | apply pw_below_drewN | apply below_drew1) | exact HB.out)))); have n3_ := Aside0.mk (below_step (by repeat (first | (with_reducible first | exact HB.out | apply below_alloc | apply pw_below_drewN | apply below_drew1) | exact HB.out)) hb); clear HO_0; clear HO_4; clear HB; have HO_0 := n0_; have HO_4 := n1_; have HO161 := n2_; have HB := n3_; clear n0_ n1_ n2_ n3_; (try clear hb); (try clear hb2); (try clear hk); (try clear hi); (try clear ho0); obtain ⟨Ao17, co17, eo17⟩ := Kd.R_slice HO161.out; subst eo17; have p162 : 0 ≤ (0 : Int) := (by omega); have q162 : 0 < (t159.length : Int) := of_decide_eq_true (by first | (with_reducible assumption) | assumption); obtain ⟨ad162, e162, hx162_0⟩ := Kd.at_string (Kd.R_reads' HO161.out).2.2 0 p162 q162; cases e162; have qi162 : (0 < t159.length) = True := eq_true (by omega); (try rw [show ((0 : Int)).toNat = 0 from rfl] at hx162_0); (try rw [Addr.add_zero'] at hx162_0); replace p162 := eq_true p162; replace q162 := eq_true q162) | ((with_reducible refine gate_builtin (b := .append) (xs := #[.tmp 22, .tmp 26]) rfl ?_); at_builtin; refine Kd.R_append Kd.string (w0 := w) w.heap.size rfl (.tmp 22) (.tmp 26) 25 9 (.string ⟨#[]⟩) 16 rfl Try.underlying25 info9 rfl (by decide) (by omega) (.slice Ao14 x4_1.length co14) x4_1 (rdOf ByteArray.empty t159 0) [.string (rdOf ByteArray.empty t159 0)] (fun k_ => some k_ ≠ (.slice (some ad162) t159.length co17 : Value).ownBlock) (fun _ => False) rfl rfl ?aP (fun _ hk => hk.elim) ?aF ?aO ?aB ?aS ?aL ?_; (case aP => exact rfl); (case aB => exact (by repeat (first | (with_reducible first | exact HB.out | apply below_alloc | apply pw_below_drewN | apply below_drew1) | exact HB.out))); (case aF => exact (fun k_ hk => Kd.fresh' (Kd.R_lt (by (with_reducible repeat (first | apply Kd.R_alloc | apply Kd.R_drewN | apply Kd.R_drew)); exact HO161.out)) k_ hk)); (case aO => exact (by (with_reducible repeat (first | apply Kd.R_alloc | apply Kd.R_drewN | apply Kd.R_drew)); exact Kd.R_mono HO_4.out (fun _ hk => hk.2))); (case aS => exact (below_size (by repeat (first | (with_reducible first | exact HB.out | apply below_alloc | apply pw_below_drewN | apply below_drew1) | exact HB.out)))); (case aL => have := LMc13.out; omega); intro v164 w18 ho hb hg hat; rw [← Ny163.out] at ho; have n0_ := Aside0.mk (Kd.N_afterv (ok := (fun k_ => some k_ ≠ (.slice (some ad162) t159.length co17 : Value).ownBlock)) (by (with_reducible repeat (first | apply Kd.N_alloc | apply Kd.N_drewN | apply Kd.N_drew)); exact Kd.N_mono HO_0.out (fun _ hk => ⟨hk.2, hk.1⟩)) hg hat); have n1_ := Aside0.mk (Kd.R_after (ok := (fun _ => True)) (by (with_reducible repeat (first | apply Kd.R_alloc | apply Kd.R_drewN | apply Kd.R_drew)); exact HO161.out) hg hat); have n2_ := Aside0.mk (hb); have n3_ := Aside0.mk (ho); clear HO_0; clear HO161; clear HB; clear HO_4; have HO_0 := n0_; have HO161 := n1_; have HB := n2_; have HO165 := n3_; clear n0_ n1_ n2_ n3_; clear ho hb hg hat))
                go_roundg k1
                case measure => have := HK1.out; omega
                case rel => exact ⟨(y163), H', ⟨by have := HK1.out; omega⟩, ⟨by (with_reducible repeat (first | apply Kd.N_alloc | apply Kd.N_drewN | apply Kd.N_drew)); exact Kd.N_mono HO_0.out (fun _ hk => hk.2)⟩, ⟨by (with_reducible repeat (first | apply Kd.R_alloc | apply Kd.R_drewN | apply Kd.R_drew)); exact Kd.R_mono HO165.out (fun _ hk => trivial)⟩, ⟨by repeat (first | (with_reducible first | exact HB.out | apply below_alloc | apply pw_below_drewN | apply below_drew1) | exact HB.out)⟩⟩
              · rw [if_neg c13] at H
                exact absurd H (by simp)
            · rw [if_neg c12] at H
              exact absurd H (by simp)
        · rw [if_neg c5] at H
          have c5b0 : decide ((x4_1.length : Int) < (t156.length : Int)) = false := decide_eq_false c5
          have c5b1 : decide (x4_1.length < t156.length) = false := decide_eq_false (fun h => c5 (Int.ofNat_lt.mpr h))
          clear c5
          (first | rw [c5b0] | (simp only [i64_w, i32_w]; rw [c5b0]) | skip)
          have H' := Aside0.mk H
          clear H
          obtain ⟨Ao19, co19, eo19⟩ := Kd.R_slice HO_4.out
          subst eo19
          obtain ⟨Ao20, co20, eo20⟩ := Kd.N_slice HO_0.out
          subst eo20
          go_wp2
          go_meet
          case rel => exact ⟨_, (x4_1), H', ⟨by have := HK1.out; first | omega | exact Nat.le_refl _⟩, ⟨by (with_reducible repeat (first | apply Kd.N_alloc | apply Kd.N_drewN | apply Kd.N_drew)); exact HO_0.out⟩, ⟨by (with_reducible repeat (first | apply Kd.R_alloc | apply Kd.R_drewN | apply Kd.R_drew)); exact HO_4.out⟩, ⟨by repeat (first | (with_reducible first | exact HB.out | apply below_alloc | apply pw_below_drewN | apply below_drew1) | exact HB.out)⟩⟩
  case rest =>
    clear HC3
    try clear c1
    try clear p1
    try clear q1
    try clear hx1
    try clear qi1
    try clear c2
    try clear p2
    try clear c5
    try clear c5b0
    try clear c5b1
    try clear c7
    try clear c7b0
    try clear c7b1
    try clear c7b2
    try clear c12
    try clear c12b0
    try clear c12b1
    try clear c13
    try clear p16
    try clear q16
    try clear hx16
    try clear qi16
    try clear c18
    try clear hx162_0
    try clear p162
    try clear p2
    try clear q162
    obtain ⟨kq, x4_2, HA, HJ2, HO_0, HO_4, HB⟩ := hcut
    cases kq with
    | zero => exact absurd HA.out (by simp [quoinref08_Order.j1])
    | succ kj2 =>
      have H := HA.out
      clear HA
      simp only [quoinref08_Order.j1] at H
      have H' := Aside0.mk H
      clear H
      go_wp2
      go_loopg [6, 7] kj2 (fun kq v6 v7 w' => ∃ (x6_2 : List ByteArray) (x7_2 : Int), v7 = .int .i64 x7_2 ∧ Aside0 (quoinref08_Order.l1 kq t156 x4_2 x6_2 x7_2 = some (r1, r2)) ∧ Aside0 (kq ≤ kj2) ∧ Aside0 (Kd.N k36 36 w' w.heap.size (fun k_ => some k_ ≠ (u4 : Value).ownBlock ∧ some k_ ≠ (v6 : Value).ownBlock) v157 t156) ∧ Aside0 (Kd.R Kd.string 9 w' w.heap.size (fun k_ => some k_ ≠ (v6 : Value).ownBlock) u4 x4_2) ∧ Aside0 (Kd.R Kd.string 9 w' w.heap.size (fun k_ => some k_ ≠ (u4 : Value).ownBlock) v6 x6_2) ∧ Aside0 (Below w.heap.size w w'))
      case atStart => exact ⟨(([] : List ByteArray)), (0), (by first | rfl | (simp; done) | (simp [*]; done)), H', ⟨Nat.le_refl _⟩, ⟨by (with_reducible repeat (first | apply Kd.N_alloc | apply Kd.N_drewN | apply Kd.N_drew)); exact Kd.N_mono HO_0.out (fun _ hk => ⟨hk, (by simp [Value.ownBlock])⟩)⟩, ⟨by (with_reducible repeat (first | apply Kd.R_alloc | apply Kd.R_drewN | apply Kd.R_drew)); exact Kd.R_mono HO_4.out (fun _ hk => (by simp [Value.ownBlock]))⟩, ⟨by first | exact Kd.R_nil _ _ _ _ _ | exact Kd.N_nil _ _ _ _ _ | exact Kd.V_nil _ _ _ _ _ | exact Kd.Q_nil _ _ _ _ _ | exact Kd.S_nil _ _ _ _ _⟩, ⟨by repeat (first | (with_reducible first | exact HB.out | apply below_alloc | apply pw_below_drewN | apply below_drew1) | exact HB.out)⟩⟩
      case round =>
        clear H'
        try clear c1
        try clear p1
        try clear q1
        try clear hx1
        try clear qi1
        try clear c2
        try clear p2
        try clear c5
        try clear c5b0
        try clear c5b1
        try clear c7
        try clear c7b0
        try clear c7b1
        try clear c7b2
        try clear c12
        try clear c12b0
        try clear c12b1
        try clear c13
        try clear p16
        try clear q16
        try clear hx16
        try clear qi16
        try clear c18
        try clear hx162_0
        try clear p1
        try clear p16
        try clear p162
        try clear p2
        try clear q1
        try clear q16
        try clear q162
        obtain ⟨x6_2, x7_2, rfl, HA, HK2, HO_0, HO_4, HO_6, HB⟩ := hrel
        cases gk with
        | zero => exact absurd HA.out (by simp [quoinref08_Order.l1])
        | succ k2 =>
          have H := HA.out
          clear HA
          simp only [quoinref08_Order.l1] at H
          by_cases c21 : x7_2 < (t156.length : Int)
          · rw [if_pos c21] at H
            have c21b0 : decide (x7_2 < (t156.length : Int)) = true := decide_eq_true c21
            clear c21
            by_cases c22 : 0 ≤ x7_2
            · rw [if_pos c22] at H
              have c22b0 : decide (0 ≤ x7_2) = true := decide_eq_true c22
              clear c22
              replace H := Option.bind_eq_some_iff.mp H
              obtain ⟨t167, A230, H⟩ := H
              replace H : (if t167 = true then (quoinref08_Order.l1 k2 t156 x4_2 x6_2 (wrap64 (x7_2 + 1))) else ((quoinref08_With.f k2 x6_2 ((rd_T36 t156 x7_2).f0)).bind fun t169 => (quoinref08_Order.l1 k2 t156 x4_2 t169 (wrap64 (x7_2 + 1))))) = some (r1, r2) := H
              have A23 := Aside0.mk A230
              clear A230
              by_cases c24 : t167 = true
              · subst c24
                have H1 : (quoinref08_Order.l1 k2 t156 x4_2 x6_2 (wrap64 (x7_2 + 1))) = some (r1, r2) := by rw [if_pos rfl] at H; exact H
                clear H
                have H := H1
                clear H1
                have H' := Aside0.mk H
                clear H
                obtain ⟨Ao25, co25, eo25⟩ := Kd.N_slice HO_0.out
                subst eo25
                have p166 : 0 ≤ (x7_2 : Int) := of_decide_eq_true (by first | (with_reducible assumption) | assumption)
                have q166 : x7_2 < (t156.length : Int) := of_decide_eq_true (by first | (with_reducible assumption) | assumption)
                obtain ⟨ad166, A166_1, c166_1, e166, hx166_0, hx166_1, hl166_1, hi166_1⟩ := at_T36 (Kd.N_reads' HO_0.out).2.2 x7_2 p166 q166
                cases e166
                obtain ⟨ce166, hce166, hMe166, hcc166⟩ := Kd.N_get HO_0.out z36 x7_2 p166 (by first | exact q166 | exact of_decide_eq_true (by first | (with_reducible assumption) | assumption) | (have e_ := (Kd.N_reads' HO_0.out).1; omega))
                obtain ⟨ua166_1, uc166_1, rfl, ul166_1, ge166_1⟩ := k36_openF hMe166
                have hv166_1 := hcc166 1 _ rfl
                rw [add_field _ _ 1 (by omega)] at hv166_1
                replace hv166_1 := Option.some.inj (hv166_1.symm.trans hx166_1)
                injection hv166_1 with hva_ hvn_ hvc_
                rw [hva_] at ge166_1
                rw [hvc_] at ul166_1
                have HL166_1 := Aside0.mk (show Kd.V Kd.string 9 _ w.heap.size _ _ ((rd_T36 t156 x7_2).f1) from Kd.V_mk ul166_1 ge166_1)
                clear hva_ hvn_ hvc_ ge166_1 ul166_1
                clear hcc166 hce166
                have HR166_1 := Aside0.mk hi166_1
                have HC166_1 := Aside0.mk hl166_1
                clear hi166_1 hl166_1
                replace p166 := eq_true p166
                replace q166 := eq_true q166
                obtain ⟨Ao26, co26, eo26⟩ := Kd.R_slice HO_4.out
                subst eo26
                go_wp2_with (first | ((with_reducible refine gate_callee (f := 27) rfl ?_); refine goesL_ (some 40) rfl rfl Try.func27 (by kernel_rfl) rfl #[.slice Ao26 x4_2.length co26, .string ((rd_T36 t156 x7_2).f0)] rfl (by (try simp only [List.map_toArray, List.map_cons, List.map_nil]); first | done | rfl | (simp only [List.length_drop, List.length_take]; rfl)) ?_; (with_reducible refine (quoinref08_Has.calls k2 _ _ x4_2 ((rd_T36 t156 x7_2).f0) true _ ?side1 ?side2 A23.out).mono ?_); (case side1 => repeat (first | exact (Kd.R_reads' HO_4.out).2.2 | (with_reducible refine Kd.C_alloc ?_ _) | (with_reducible refine Kd.C_drewN ?_ _) | (with_reducible refine Kd.C_drew ?_))); (case side2 => exact (Kd.R_reads' HO_4.out).2.1); rintro e w' ⟨rfl, ⟨nd, rfl⟩⟩; refine ⟨_, rfl, ?_⟩))
                go_roundg k2
                case measure => have := HJ2.out; have := HK2.out; omega
                case rel => exact ⟨(x6_2), (wrap64 (x7_2 + 1)), (by first | rfl | (simp; done) | (simp [*]; done)), H', ⟨by have := HJ2.out; have := HK2.out; omega⟩, ⟨by (with_reducible repeat (first | apply Kd.N_alloc | apply Kd.N_drewN | apply Kd.N_drew)); exact HO_0.out⟩, ⟨by (with_reducible repeat (first | apply Kd.R_alloc | apply Kd.R_drewN | apply Kd.R_drew)); exact HO_4.out⟩, ⟨by (with_reducible repeat (first | apply Kd.R_alloc | apply Kd.R_drewN | apply Kd.R_drew)); exact HO_6.out⟩, ⟨by repeat (first | (with_reducible first | exact HB.out | apply below_alloc | apply pw_below_drewN | apply below_drew1) | exact HB.out)⟩⟩
              · replace c24 := Bool.eq_false_iff.mpr c24
                subst c24
                have H1 : ((quoinref08_With.f k2 x6_2 ((rd_T36 t156 x7_2).f0)).bind fun t169 => (quoinref08_Order.l1 k2 t156 x4_2 t169 (wrap64 (x7_2 + 1)))) = some (r1, r2) := by rw [if_neg (show ¬ (false = true) by decide)] at H; exact H
                clear H
                have H := H1
                clear H1
                replace H := Option.bind_eq_some_iff.mp H
                obtain ⟨t169, A270, H⟩ := H
                replace H : (quoinref08_Order.l1 k2 t156 x4_2 t169 (wrap64 (x7_2 + 1))) = some (r1, r2) := H
                have A27 := Aside0.mk A270
                clear A270
                have H' := Aside0.mk H
                clear H
                obtain ⟨Ao28, co28, eo28⟩ := Kd.N_slice HO_0.out
                subst eo28
                have p166 : 0 ≤ (x7_2 : Int) := of_decide_eq_true (by first | (with_reducible assumption) | assumption)
                have q166 : x7_2 < (t156.length : Int) := of_decide_eq_true (by first | (with_reducible assumption) | assumption)
                obtain ⟨ad166, A166_1, c166_1, e166, hx166_0, hx166_1, hl166_1, hi166_1⟩ := at_T36 (Kd.N_reads' HO_0.out).2.2 x7_2 p166 q166
                cases e166
                obtain ⟨ce166, hce166, hMe166, hcc166⟩ := Kd.N_get HO_0.out z36 x7_2 p166 (by first | exact q166 | exact of_decide_eq_true (by first | (with_reducible assumption) | assumption) | (have e_ := (Kd.N_reads' HO_0.out).1; omega))
                obtain ⟨ua166_1, uc166_1, rfl, ul166_1, ge166_1⟩ := k36_openF hMe166
                have hv166_1 := hcc166 1 _ rfl
                rw [add_field _ _ 1 (by omega)] at hv166_1
                replace hv166_1 := Option.some.inj (hv166_1.symm.trans hx166_1)
                injection hv166_1 with hva_ hvn_ hvc_
                rw [hva_] at ge166_1
                rw [hvc_] at ul166_1
                have HL166_1 := Aside0.mk (show Kd.V Kd.string 9 _ w.heap.size _ _ ((rd_T36 t156 x7_2).f1) from Kd.V_mk ul166_1 ge166_1)
                clear hva_ hvn_ hvc_ ge166_1 ul166_1
                clear hcc166 hce166
                have HR166_1 := Aside0.mk hi166_1
                have HC166_1 := Aside0.mk hl166_1
                clear hi166_1 hl166_1
                replace p166 := eq_true p166
                replace q166 := eq_true q166
                obtain ⟨Ao29, co29, eo29⟩ := Kd.R_slice HO_4.out
                subst eo29
                go_wp2_with (first | ((with_reducible refine gate_callee (f := 27) rfl ?_); refine goesL_ (some 40) rfl rfl Try.func27 (by kernel_rfl) rfl #[.slice Ao29 x4_2.length co29, .string ((rd_T36 t156 x7_2).f0)] rfl (by (try simp only [List.map_toArray, List.map_cons, List.map_nil]); first | done | rfl | (simp only [List.length_drop, List.length_take]; rfl)) ?_; (with_reducible refine (quoinref08_Has.calls k2 _ _ x4_2 ((rd_T36 t156 x7_2).f0) false _ ?side1 ?side2 A23.out).mono ?_); (case side1 => repeat (first | exact (Kd.R_reads' HO_4.out).2.2 | (with_reducible refine Kd.C_alloc ?_ _) | (with_reducible refine Kd.C_drewN ?_ _) | (with_reducible refine Kd.C_drew ?_))); (case side2 => exact (Kd.R_reads' HO_4.out).2.1); rintro e w' ⟨rfl, ⟨nd, rfl⟩⟩; refine ⟨_, rfl, ?_⟩; have p168 : 0 ≤ (x7_2 : Int) := of_decide_eq_true (by first | (with_reducible assumption) | assumption); have q168 : x7_2 < (t156.length : Int) := of_decide_eq_true (by first | (with_reducible assumption) | assumption); obtain ⟨ad168, A168_1, c168_1, e168, hx168_0, hx168_1, hl168_1, hi168_1⟩ := at_T36 (Kd.N_reads' HO_0.out).2.2 x7_2 p168 q168; obtain rfl : ad166 = ad168 := (by injection e168); obtain ⟨ce168, hce168, hMe168, hcc168⟩ := Kd.N_get HO_0.out z36 x7_2 p168 (by first | exact q168 | exact of_decide_eq_true (by first | (with_reducible assumption) | assumption) | (have e_ := (Kd.N_reads' HO_0.out).1; omega)); obtain ⟨ua168_1, uc168_1, rfl, ul168_1, ge168_1⟩ := k36_openF hMe168; have hv168_1 := hcc168 1 _ rfl; rw [add_field _ _ 1 (by omega)] at hv168_1; replace hv168_1 := Option.some.inj (hv168_1.symm.trans hx168_1); injection hv168_1 with hva_ hvn_ hvc_; rw [hva_] at ge168_1; rw [hvc_] at ul168_1; have HL168_1 := Aside0.mk (show Kd.V Kd.string 9 _ w.heap.size _ _ ((rd_T36 t156 x7_2).f1) from Kd.V_mk ul168_1 ge168_1); clear hva_ hvn_ hvc_ ge168_1 ul168_1; clear hcc168 hce168; have HR168_1 := Aside0.mk hi168_1; have HC168_1 := Aside0.mk hl168_1; clear hi168_1 hl168_1; replace p168 := eq_true p168; replace q168 := eq_true q168; have ea_ := Option.some.inj (hx166_1.symm.trans hx168_1); injection ea_ with ea_ en_ ec_; subst ea_; subst ec_; clear en_; obtain ⟨Ao30, co30, eo30⟩ := Kd.R_slice HO_6.out; subst eo30) | ((with_reducible refine gate_callee (f := 28) rfl ?_); refine goesL_ (some 49) rfl rfl Try.func28 (by kernel_rfl) rfl #[.slice Ao30 x6_2.length co30, .string ((rd_T36 t156 x7_2).f0)] rfl (by (try simp only [List.map_toArray, List.map_cons, List.map_nil]); first | done | rfl | (simp only [List.length_drop, List.length_take]; rfl)) ?_; (with_reducible refine (quoinref08_With.calls k2 _ _ x6_2 ((rd_T36 t156 x7_2).f0) t169 _ ?side1 ?side2 A27.out).mono ?_); (case side1 => repeat (first | exact (Kd.R_reads' HO_6.out).2.2 | (with_reducible refine Kd.C_alloc ?_ _) | (with_reducible refine Kd.C_drewN ?_ _) | (with_reducible refine Kd.C_drew ?_))); (case side2 => exact (Kd.R_reads' HO_6.out).2.1); rintro e w31 ⟨v170, rfl, ho0, hb⟩; refine ⟨_, rfl, ?_⟩; have n0_ := Aside0.mk (Kd.N_elder' (by (with_reducible repeat (first | apply Kd.N_alloc | apply Kd.N_drewN | apply Kd.N_drew)); exact HO_0.out) (Kd.R_base ho0) hb); have n1_ := Aside0.mk (Kd.R_elder' (by (with_reducible repeat (first | apply Kd.R_alloc | apply Kd.R_drewN | apply Kd.R_drew)); exact HO_4.out) (Kd.R_base ho0) hb); have n2_ := Aside0.mk (Kd.R_elder' (by (with_reducible repeat (first | apply Kd.R_alloc | apply Kd.R_drewN | apply Kd.R_drew)); exact HO_6.out) (Kd.R_base ho0) hb); have n3_ := Aside0.mk (Kd.V_elder' (by (with_reducible repeat (first | apply Kd.V_alloc | apply Kd.V_drewN | apply Kd.V_drew)); exact HL166_1.out) (Kd.R_base ho0) hb); have n4_ := Aside0.mk (Kd.V_elder' (by (with_reducible repeat (first | apply Kd.V_alloc | apply Kd.V_drewN | apply Kd.V_drew)); exact HL168_1.out) (Kd.R_base ho0) hb); have n5_ := Aside0.mk (Kd.R_lower (Kd.R_new' (Kd.R_new' ho0 (Kd.R_lt (by (with_reducible repeat (first | apply Kd.R_alloc | apply Kd.R_drewN | apply Kd.R_drew)); exact HO_4.out))) (Kd.R_lt (by (with_reducible repeat (first | apply Kd.R_alloc | apply Kd.R_drewN | apply Kd.R_drew)); exact HO_6.out))) (below_size (by repeat (first | (with_reducible first | exact HB.out | apply below_alloc | apply pw_below_drewN | apply below_drew1) | exact HB.out)))); have n6_ := Aside0.mk (Kd.C_below (by repeat (first | (with_reducible exact HR166_1.out) | (with_reducible refine Kd.C_alloc ?_ _) | (with_reducible refine Kd.C_drewN ?_ _) | (with_reducible refine Kd.C_drew ?_) | exact HR166_1.out)) hb); have n7_ := Aside0.mk (Kd.C_below (by repeat (first | (with_reducible exact HR168_1.out) | (with_reducible refine Kd.C_alloc ?_ _) | (with_reducible refine Kd.C_drewN ?_ _) | (with_reducible refine Kd.C_drew ?_) | exact HR168_1.out)) hb); have n8_ := Aside0.mk (below_step (by repeat (first | (with_reducible first | exact HB.out | apply below_alloc | apply pw_below_drewN | apply below_drew1) | exact HB.out)) hb); clear HO_0; clear HO_4; clear HO_6; clear HL166_1; clear HL168_1; clear HR166_1; clear HR168_1; clear HB; have HO_0 := n0_; have HO_4 := n1_; have HO_6 := n2_; have HL166_1 := n3_; have HL168_1 := n4_; have HO171 := n5_; have HR166_1 := n6_; have HR168_1 := n7_; have HB := n8_; clear n0_ n1_ n2_ n3_ n4_ n5_ n6_ n7_ n8_; (try clear hb); (try clear hb2); (try clear hk); (try clear hi); (try clear ho0)))
                go_roundg k2
                case measure => have := HJ2.out; have := HK2.out; omega
                case rel => exact ⟨(t169), (wrap64 (x7_2 + 1)), (by first | rfl | (simp; done) | (simp [*]; done)), H', ⟨by have := HJ2.out; have := HK2.out; omega⟩, ⟨by (with_reducible repeat (first | apply Kd.N_alloc | apply Kd.N_drewN | apply Kd.N_drew)); exact Kd.N_mono HO_0.out (fun _ hk => ⟨hk.1.1, hk.2⟩)⟩, ⟨by (with_reducible repeat (first | apply Kd.R_alloc | apply Kd.R_drewN | apply Kd.R_drew)); exact Kd.R_mono HO_4.out (fun _ hk => hk.2)⟩, ⟨by (with_reducible repeat (first | apply Kd.R_alloc | apply Kd.R_drewN | apply Kd.R_drew)); exact Kd.R_mono HO171.out (fun _ hk => hk.1.2)⟩, ⟨by repeat (first | (with_reducible first | exact HB.out | apply below_alloc | apply pw_below_drewN | apply below_drew1) | exact HB.out)⟩⟩
            · rw [if_neg c22] at H
              exact absurd H (by simp)
          · rw [if_neg c21] at H
            have c21b0 : decide (x7_2 < (t156.length : Int)) = false := decide_eq_false c21
            clear c21
            simp only [Option.some.injEq, Prod.mk.injEq] at H
            obtain ⟨rfl, rfl⟩ := H
            obtain ⟨Ao32, co32, eo32⟩ := Kd.N_slice HO_0.out
            subst eo32
            go_wp2
            go_ret2
            exact ⟨_, _, by first | rfl | (simp [errW_none, errW_some] <;> rfl) | (simp [*, errW_none, errW_some] <;> rfl), by (with_reducible repeat (first | apply Kd.R_alloc | apply Kd.R_drewN | apply Kd.R_drew)); exact HO_4.out, by (with_reducible repeat (first | apply Kd.R_alloc | apply Kd.R_drewN | apply Kd.R_drew)); exact HO_6.out, by repeat (first | (with_reducible first | exact HB.out | apply below_alloc | apply pw_below_drewN | apply below_drew1) | exact HB.out)⟩

/-! ### quoinref08_Users: function 20 -/
def quoinref08_Users.l0 : Nat → List (S36) → ByteArray → List ByteArray → Int → Option (List ByteArray)
  | 0, _, _, _, _ => none
  | k + 1, x0, x1, x5, x6 => if x6 < (x0.length : Int) then (if 0 ≤ x6 then ((quoinref08_Has.f k ((rd_T36 x0 x6).f1) x1).bind fun t176 => (if t176 = true then ((quoinref08_With.f k x5 ((rd_T36 x0 x6).f0)).bind fun t178 => (quoinref08_Users.l0 k x0 x1 t178 (wrap64 (x6 + 1)))) else (quoinref08_Users.l0 k x0 x1 x5 (wrap64 (x6 + 1))))) else (none)) else (some x5)
def quoinref08_Users.f (k : Nat) (l0 : List (S36)) (a1 : ByteArray) : Option (List ByteArray) := (quoinref08_Nodes.f k l0).bind fun t172 => (quoinref08_Users.l0 k t172 a1 ([] : List ByteArray) 0)
theorem quoinref08_Users.mono_l : ∀ k, (∀ y0 y1 y2 y3, LeO (quoinref08_Users.l0 k y0 y1 y2 y3) (quoinref08_Users.l0 (k + 1) y0 y1 y2 y3))
  | 0 => fun _ _ _ _ r h => by simp [quoinref08_Users.l0] at h
  | k + 1 => by
    have ih0 := quoinref08_Users.mono_l k
    · intro y0 y1 y2 y3
      unfold quoinref08_Users.l0
      repeat' first
      | (with_reducible exact ih0 _ _ _ _)
      | (with_reducible exact quoinref08_Has.mono _ _ _)
      | (with_reducible exact quoinref08_Nodes.mono _ _)
      | (with_reducible exact quoinref08_With.mono _ _ _)
      | (with_reducible exact LeO.refl _)
      | (with_reducible exact LeO.none _)
      | (with_reducible refine LeO.ite ?_ ?_)
      | (with_reducible refine LeO.bind ?_ (fun _ => ?_))
      | exact ih0 _ _ _ _
      | exact quoinref08_Has.mono _ _ _
      | exact quoinref08_Nodes.mono _ _
      | exact quoinref08_With.mono _ _ _
      | exact LeO.none _
      | refine LeO.ite ?_ ?_
      | refine LeO.bind ?_ (fun _ => ?_)
theorem quoinref08_Users.mono : ∀ a0 a1 k, LeO (quoinref08_Users.f k a0 a1) (quoinref08_Users.f (k + 1) a0 a1) := by
  intro a0 a1 k
  have ih0 := quoinref08_Users.mono_l k
  unfold quoinref08_Users.f
  repeat' first
      | (with_reducible exact ih0 _ _ _ _)
      | (with_reducible exact quoinref08_Has.mono _ _ _)
      | (with_reducible exact quoinref08_Nodes.mono _ _)
      | (with_reducible exact quoinref08_With.mono _ _ _)
      | (with_reducible exact LeO.refl _)
      | (with_reducible exact LeO.none _)
      | (with_reducible refine LeO.ite ?_ ?_)
      | (with_reducible refine LeO.bind ?_ (fun _ => ?_))
      | exact ih0 _ _ _ _
      | exact quoinref08_Has.mono _ _ _
      | exact quoinref08_Nodes.mono _ _
      | exact quoinref08_With.mono _ _ _
      | exact LeO.none _
      | refine LeO.ite ?_ ?_
      | refine LeO.bind ?_ (fun _ => ?_)
set_option maxHeartbeats 8000000 in
set_option maxRecDepth 100000 in
theorem quoinref08_Users.calls (k : Nat) (A0 : Option Addr) (c0 : Nat) (l0 : List (S36)) (a1 : ByteArray) (r : List ByteArray) (w : World) (hr0 : Kd.C k36 w A0 l0.length l0) (hc0 : l0.length ≤ c0) (h : quoinref08_Users.f k l0 a1 = some r) :
    Calls Try.prog 20 #[.slice A0 l0.length c0, .string a1] w fun e w' => ∃ v0_ : Value, e = .returned (v0_) ∧ Kd.R Kd.string 9 w' w.heap.size (fun _ => True) v0_ r ∧ Below w.heap.size w w' := by
  have HR0 := Aside0.mk hr0
  have HC0 := Aside0.mk hc0
  clear hr0 hc0
  have HB := Aside0.mk (Below.refl w.heap.size w)
  have H : ((quoinref08_Nodes.f k l0).bind fun t172 => (quoinref08_Users.l0 k t172 a1 ([] : List ByteArray) 0)) = some r := h
  clear h
  replace H := Option.bind_eq_some_iff.mp H
  obtain ⟨t172, A30, H⟩ := H
  replace H : (quoinref08_Users.l0 k t172 a1 ([] : List ByteArray) 0) = some r := H
  have A3 := Aside0.mk A30
  clear A30
  have H' := Aside0.mk H
  clear H
  go_enter Try.func20, Try.ntmps20
  go_wp2_with (first | ((with_reducible refine gate_callee (f := 26) rfl ?_); refine goesL_ (some 9) rfl rfl Try.func26 (by kernel_rfl) rfl #[.slice A0 l0.length c0] rfl (by (try simp only [List.map_toArray, List.map_cons, List.map_nil]); first | done | rfl | (simp only [List.length_drop, List.length_take]; rfl)) ?_; (with_reducible refine (quoinref08_Nodes.calls k (fun k_ => k_ < w.heap.size) _ _ l0 t172 _ ?side1 A3.out).mono ?_); (case side1 => exact Kd.V_mk HC0.out (Kd.F_below (Kd.C_F k36_heap HR0.out) (by repeat (first | (with_reducible first | exact HB.out | apply below_alloc | apply pw_below_drewN | apply below_drew1) | exact HB.out)))); rintro e w4 ⟨v173, rfl, ho0, hb⟩; refine ⟨_, rfl, ?_⟩; have n0_ := Aside0.mk (Kd.N_lower (Kd.N_mono (ok' := fun k_ => True) ho0 (fun k_ hk_ => trivial)) (below_size (by repeat (first | (with_reducible first | exact HB.out | apply below_alloc | apply pw_below_drewN | apply below_drew1) | exact HB.out)))); have n1_ := Aside0.mk (below_step (by repeat (first | (with_reducible first | exact HB.out | apply below_alloc | apply pw_below_drewN | apply below_drew1) | exact HB.out)) hb); clear HB; have HO174 := n0_; have HB := n1_; clear n0_ n1_; (try clear hb); (try clear hb2); (try clear hk); (try clear hi); (try clear ho0)))
  go_loopg [5, 6] k (fun kq v5 v6 w' => ∃ (x5_1 : List ByteArray) (x6_1 : Int), v6 = .int .i64 x6_1 ∧ Aside0 (quoinref08_Users.l0 kq t172 a1 x5_1 x6_1 = some r) ∧ Aside0 (kq ≤ k) ∧ Aside0 (Kd.N k36 36 w' w.heap.size (fun k_ => some k_ ≠ (v5 : Value).ownBlock) v173 t172) ∧ Aside0 (Kd.R Kd.string 9 w' w.heap.size (fun _ => True) v5 x5_1) ∧ Aside0 (Below w.heap.size w w'))
  case atStart => exact ⟨(([] : List ByteArray)), (0), (by first | rfl | (simp; done) | (simp [*]; done)), H', ⟨Nat.le_refl _⟩, ⟨by (with_reducible repeat (first | apply Kd.N_alloc | apply Kd.N_drewN | apply Kd.N_drew)); exact Kd.N_mono HO174.out (fun _ hk => (by simp [Value.ownBlock]))⟩, ⟨by first | exact Kd.R_nil _ _ _ _ _ | exact Kd.N_nil _ _ _ _ _ | exact Kd.V_nil _ _ _ _ _ | exact Kd.Q_nil _ _ _ _ _ | exact Kd.S_nil _ _ _ _ _⟩, ⟨by repeat (first | (with_reducible first | exact HB.out | apply below_alloc | apply pw_below_drewN | apply below_drew1) | exact HB.out)⟩⟩
  case round =>
    clear H'
    try clear c2
    try clear p2
    obtain ⟨x5_1, x6_1, rfl, HA, HK1, HO_0, HO_5, HB⟩ := hrel
    cases gk with
    | zero => exact absurd HA.out (by simp [quoinref08_Users.l0])
    | succ k1 =>
      have H := HA.out
      clear HA
      simp only [quoinref08_Users.l0] at H
      by_cases c5 : x6_1 < (t172.length : Int)
      · rw [if_pos c5] at H
        have c5b0 : decide (x6_1 < (t172.length : Int)) = true := decide_eq_true c5
        clear c5
        by_cases c6 : 0 ≤ x6_1
        · rw [if_pos c6] at H
          have c6b0 : decide (0 ≤ x6_1) = true := decide_eq_true c6
          clear c6
          replace H := Option.bind_eq_some_iff.mp H
          obtain ⟨t176, A70, H⟩ := H
          replace H : (if t176 = true then ((quoinref08_With.f k1 x5_1 ((rd_T36 t172 x6_1).f0)).bind fun t178 => (quoinref08_Users.l0 k1 t172 a1 t178 (wrap64 (x6_1 + 1)))) else (quoinref08_Users.l0 k1 t172 a1 x5_1 (wrap64 (x6_1 + 1)))) = some r := H
          have A7 := Aside0.mk A70
          clear A70
          by_cases c8 : t176 = true
          · subst c8
            have H1 : ((quoinref08_With.f k1 x5_1 ((rd_T36 t172 x6_1).f0)).bind fun t178 => (quoinref08_Users.l0 k1 t172 a1 t178 (wrap64 (x6_1 + 1)))) = some r := by rw [if_pos rfl] at H; exact H
            clear H
            have H := H1
            clear H1
            replace H := Option.bind_eq_some_iff.mp H
            obtain ⟨t178, A90, H⟩ := H
            replace H : (quoinref08_Users.l0 k1 t172 a1 t178 (wrap64 (x6_1 + 1))) = some r := H
            have A9 := Aside0.mk A90
            clear A90
            have H' := Aside0.mk H
            clear H
            obtain ⟨Ao10, co10, eo10⟩ := Kd.N_slice HO_0.out
            subst eo10
            have p175 : 0 ≤ (x6_1 : Int) := of_decide_eq_true (by first | (with_reducible assumption) | assumption)
            have q175 : x6_1 < (t172.length : Int) := of_decide_eq_true (by first | (with_reducible assumption) | assumption)
            obtain ⟨ad175, A175_1, c175_1, e175, hx175_0, hx175_1, hl175_1, hi175_1⟩ := at_T36 (Kd.N_reads' HO_0.out).2.2 x6_1 p175 q175
            cases e175
            obtain ⟨ce175, hce175, hMe175, hcc175⟩ := Kd.N_get HO_0.out z36 x6_1 p175 (by first | exact q175 | exact of_decide_eq_true (by first | (with_reducible assumption) | assumption) | (have e_ := (Kd.N_reads' HO_0.out).1; omega))
            obtain ⟨ua175_1, uc175_1, rfl, ul175_1, ge175_1⟩ := k36_openF hMe175
            have hv175_1 := hcc175 1 _ rfl
            rw [add_field _ _ 1 (by omega)] at hv175_1
            replace hv175_1 := Option.some.inj (hv175_1.symm.trans hx175_1)
            injection hv175_1 with hva_ hvn_ hvc_
            rw [hva_] at ge175_1
            rw [hvc_] at ul175_1
            have HL175_1 := Aside0.mk (show Kd.V Kd.string 9 _ w.heap.size _ _ ((rd_T36 t172 x6_1).f1) from Kd.V_mk ul175_1 ge175_1)
            clear hva_ hvn_ hvc_ ge175_1 ul175_1
            clear hcc175 hce175
            have HR175_1 := Aside0.mk hi175_1
            have HC175_1 := Aside0.mk hl175_1
            clear hi175_1 hl175_1
            replace p175 := eq_true p175
            replace q175 := eq_true q175
            go_wp2_with (first | ((with_reducible refine gate_callee (f := 27) rfl ?_); refine goesL_ (some 22) rfl rfl Try.func27 (by kernel_rfl) rfl #[.slice A175_1 ((rd_T36 t172 x6_1).f1).length c175_1, .string a1] rfl (by (try simp only [List.map_toArray, List.map_cons, List.map_nil]); first | done | rfl | (simp only [List.length_drop, List.length_take]; rfl)) ?_; (with_reducible refine (quoinref08_Has.calls k1 _ _ ((rd_T36 t172 x6_1).f1) a1 true _ ?side1 ?side2 A7.out).mono ?_); (case side1 => repeat (first | exact (by repeat (first | (with_reducible exact HR175_1.out) | (with_reducible refine Kd.C_alloc ?_ _) | (with_reducible refine Kd.C_drewN ?_ _) | (with_reducible refine Kd.C_drew ?_) | exact HR175_1.out)) | (with_reducible refine Kd.C_alloc ?_ _) | (with_reducible refine Kd.C_drewN ?_ _) | (with_reducible refine Kd.C_drew ?_))); (case side2 => exact HC175_1.out); rintro e w' ⟨rfl, ⟨nd, rfl⟩⟩; refine ⟨_, rfl, ?_⟩; have p177 : 0 ≤ (x6_1 : Int) := of_decide_eq_true (by first | (with_reducible assumption) | assumption); have q177 : x6_1 < (t172.length : Int) := of_decide_eq_true (by first | (with_reducible assumption) | assumption); obtain ⟨ad177, A177_1, c177_1, e177, hx177_0, hx177_1, hl177_1, hi177_1⟩ := at_T36 (Kd.N_reads' HO_0.out).2.2 x6_1 p177 q177; obtain rfl : ad175 = ad177 := (by injection e177); obtain ⟨ce177, hce177, hMe177, hcc177⟩ := Kd.N_get HO_0.out z36 x6_1 p177 (by first | exact q177 | exact of_decide_eq_true (by first | (with_reducible assumption) | assumption) | (have e_ := (Kd.N_reads' HO_0.out).1; omega)); obtain ⟨ua177_1, uc177_1, rfl, ul177_1, ge177_1⟩ := k36_openF hMe177; have hv177_1 := hcc177 1 _ rfl; rw [add_field _ _ 1 (by omega)] at hv177_1; replace hv177_1 := Option.some.inj (hv177_1.symm.trans hx177_1); injection hv177_1 with hva_ hvn_ hvc_; rw [hva_] at ge177_1; rw [hvc_] at ul177_1; have HL177_1 := Aside0.mk (show Kd.V Kd.string 9 _ w.heap.size _ _ ((rd_T36 t172 x6_1).f1) from Kd.V_mk ul177_1 ge177_1); clear hva_ hvn_ hvc_ ge177_1 ul177_1; clear hcc177 hce177; have HR177_1 := Aside0.mk hi177_1; have HC177_1 := Aside0.mk hl177_1; clear hi177_1 hl177_1; replace p177 := eq_true p177; replace q177 := eq_true q177; have ea_ := Option.some.inj (hx175_1.symm.trans hx177_1); injection ea_ with ea_ en_ ec_; subst ea_; subst ec_; clear en_; obtain ⟨Ao11, co11, eo11⟩ := Kd.R_slice HO_5.out; subst eo11) | ((with_reducible refine gate_callee (f := 28) rfl ?_); refine goesL_ (some 30) rfl rfl Try.func28 (by kernel_rfl) rfl #[.slice Ao11 x5_1.length co11, .string ((rd_T36 t172 x6_1).f0)] rfl (by (try simp only [List.map_toArray, List.map_cons, List.map_nil]); first | done | rfl | (simp only [List.length_drop, List.length_take]; rfl)) ?_; (with_reducible refine (quoinref08_With.calls k1 _ _ x5_1 ((rd_T36 t172 x6_1).f0) t178 _ ?side1 ?side2 A9.out).mono ?_); (case side1 => repeat (first | exact (Kd.R_reads' HO_5.out).2.2 | (with_reducible refine Kd.C_alloc ?_ _) | (with_reducible refine Kd.C_drewN ?_ _) | (with_reducible refine Kd.C_drew ?_))); (case side2 => exact (Kd.R_reads' HO_5.out).2.1); rintro e w12 ⟨v179, rfl, ho0, hb⟩; refine ⟨_, rfl, ?_⟩; have n0_ := Aside0.mk (Kd.N_elder' (by (with_reducible repeat (first | apply Kd.N_alloc | apply Kd.N_drewN | apply Kd.N_drew)); exact HO_0.out) (Kd.R_base ho0) hb); have n1_ := Aside0.mk (Kd.R_elder' (by (with_reducible repeat (first | apply Kd.R_alloc | apply Kd.R_drewN | apply Kd.R_drew)); exact HO_5.out) (Kd.R_base ho0) hb); have n2_ := Aside0.mk (Kd.V_elder' (by (with_reducible repeat (first | apply Kd.V_alloc | apply Kd.V_drewN | apply Kd.V_drew)); exact HL175_1.out) (Kd.R_base ho0) hb); have n3_ := Aside0.mk (Kd.V_elder' (by (with_reducible repeat (first | apply Kd.V_alloc | apply Kd.V_drewN | apply Kd.V_drew)); exact HL177_1.out) (Kd.R_base ho0) hb); have n4_ := Aside0.mk (Kd.R_lower (Kd.R_new' ho0 (Kd.R_lt (by (with_reducible repeat (first | apply Kd.R_alloc | apply Kd.R_drewN | apply Kd.R_drew)); exact HO_5.out))) (below_size (by repeat (first | (with_reducible first | exact HB.out | apply below_alloc | apply pw_below_drewN | apply below_drew1) | exact HB.out)))); have n5_ := Aside0.mk (Kd.C_below (by repeat (first | (with_reducible exact HR175_1.out) | (with_reducible refine Kd.C_alloc ?_ _) | (with_reducible refine Kd.C_drewN ?_ _) | (with_reducible refine Kd.C_drew ?_) | exact HR175_1.out)) hb); have n6_ := Aside0.mk (Kd.C_below (by repeat (first | (with_reducible exact HR177_1.out) | (with_reducible refine Kd.C_alloc ?_ _) | (with_reducible refine Kd.C_drewN ?_ _) | (with_reducible refine Kd.C_drew ?_) | exact HR177_1.out)) hb); have n7_ := Aside0.mk (below_step (by repeat (first | (with_reducible first | exact HB.out | apply below_alloc | apply pw_below_drewN | apply below_drew1) | exact HB.out)) hb); clear HO_0; clear HO_5; clear HL175_1; clear HL177_1; clear HR175_1; clear HR177_1; clear HB; have HO_0 := n0_; have HO_5 := n1_; have HL175_1 := n2_; have HL177_1 := n3_; have HO180 := n4_; have HR175_1 := n5_; have HR177_1 := n6_; have HB := n7_; clear n0_ n1_ n2_ n3_ n4_ n5_ n6_ n7_; (try clear hb); (try clear hb2); (try clear hk); (try clear hi); (try clear ho0)))
            go_roundg k1
            case measure => have := HK1.out; omega
            case rel => exact ⟨(t178), (wrap64 (x6_1 + 1)), (by first | rfl | (simp; done) | (simp [*]; done)), H', ⟨by have := HK1.out; omega⟩, ⟨by (with_reducible repeat (first | apply Kd.N_alloc | apply Kd.N_drewN | apply Kd.N_drew)); exact Kd.N_mono HO_0.out (fun _ hk => hk.2)⟩, ⟨by (with_reducible repeat (first | apply Kd.R_alloc | apply Kd.R_drewN | apply Kd.R_drew)); exact Kd.R_mono HO180.out (fun _ hk => trivial)⟩, ⟨by repeat (first | (with_reducible first | exact HB.out | apply below_alloc | apply pw_below_drewN | apply below_drew1) | exact HB.out)⟩⟩
          · replace c8 := Bool.eq_false_iff.mpr c8
            subst c8
            have H1 : (quoinref08_Users.l0 k1 t172 a1 x5_1 (wrap64 (x6_1 + 1))) = some r := by rw [if_neg (show ¬ (false = true) by decide)] at H; exact H
            clear H
            have H := H1
            clear H1
            have H' := Aside0.mk H
            clear H
            obtain ⟨Ao13, co13, eo13⟩ := Kd.N_slice HO_0.out
            subst eo13
            have p175 : 0 ≤ (x6_1 : Int) := of_decide_eq_true (by first | (with_reducible assumption) | assumption)
            have q175 : x6_1 < (t172.length : Int) := of_decide_eq_true (by first | (with_reducible assumption) | assumption)
            obtain ⟨ad175, A175_1, c175_1, e175, hx175_0, hx175_1, hl175_1, hi175_1⟩ := at_T36 (Kd.N_reads' HO_0.out).2.2 x6_1 p175 q175
            cases e175
            obtain ⟨ce175, hce175, hMe175, hcc175⟩ := Kd.N_get HO_0.out z36 x6_1 p175 (by first | exact q175 | exact of_decide_eq_true (by first | (with_reducible assumption) | assumption) | (have e_ := (Kd.N_reads' HO_0.out).1; omega))
            obtain ⟨ua175_1, uc175_1, rfl, ul175_1, ge175_1⟩ := k36_openF hMe175
            have hv175_1 := hcc175 1 _ rfl
            rw [add_field _ _ 1 (by omega)] at hv175_1
            replace hv175_1 := Option.some.inj (hv175_1.symm.trans hx175_1)
            injection hv175_1 with hva_ hvn_ hvc_
            rw [hva_] at ge175_1
            rw [hvc_] at ul175_1
            have HL175_1 := Aside0.mk (show Kd.V Kd.string 9 _ w.heap.size _ _ ((rd_T36 t172 x6_1).f1) from Kd.V_mk ul175_1 ge175_1)
            clear hva_ hvn_ hvc_ ge175_1 ul175_1
            clear hcc175 hce175
            have HR175_1 := Aside0.mk hi175_1
            have HC175_1 := Aside0.mk hl175_1
            clear hi175_1 hl175_1
            replace p175 := eq_true p175
            replace q175 := eq_true q175
            go_wp2_with (first | ((with_reducible refine gate_callee (f := 27) rfl ?_); refine goesL_ (some 22) rfl rfl Try.func27 (by kernel_rfl) rfl #[.slice A175_1 ((rd_T36 t172 x6_1).f1).length c175_1, .string a1] rfl (by (try simp only [List.map_toArray, List.map_cons, List.map_nil]); first | done | rfl | (simp only [List.length_drop, List.length_take]; rfl)) ?_; (with_reducible refine (quoinref08_Has.calls k1 _ _ ((rd_T36 t172 x6_1).f1) a1 false _ ?side1 ?side2 A7.out).mono ?_); (case side1 => repeat (first | exact (by repeat (first | (with_reducible exact HR175_1.out) | (with_reducible refine Kd.C_alloc ?_ _) | (with_reducible refine Kd.C_drewN ?_ _) | (with_reducible refine Kd.C_drew ?_) | exact HR175_1.out)) | (with_reducible refine Kd.C_alloc ?_ _) | (with_reducible refine Kd.C_drewN ?_ _) | (with_reducible refine Kd.C_drew ?_))); (case side2 => exact HC175_1.out); rintro e w' ⟨rfl, ⟨nd, rfl⟩⟩; refine ⟨_, rfl, ?_⟩))
            go_roundg k1
            case measure => have := HK1.out; omega
            case rel => exact ⟨(x5_1), (wrap64 (x6_1 + 1)), (by first | rfl | (simp; done) | (simp [*]; done)), H', ⟨by have := HK1.out; omega⟩, ⟨by (with_reducible repeat (first | apply Kd.N_alloc | apply Kd.N_drewN | apply Kd.N_drew)); exact HO_0.out⟩, ⟨by (with_reducible repeat (first | apply Kd.R_alloc | apply Kd.R_drewN | apply Kd.R_drew)); exact HO_5.out⟩, ⟨by repeat (first | (with_reducible first | exact HB.out | apply below_alloc | apply pw_below_drewN | apply below_drew1) | exact HB.out)⟩⟩
        · rw [if_neg c6] at H
          exact absurd H (by simp)
      · rw [if_neg c5] at H
        have c5b0 : decide (x6_1 < (t172.length : Int)) = false := decide_eq_false c5
        clear c5
        obtain rfl := Option.some.inj H
        obtain ⟨Ao14, co14, eo14⟩ := Kd.N_slice HO_0.out
        subst eo14
        go_wp2
        go_ret
        exact ⟨_, by first | rfl | (simp [errW_none, errW_some] <;> rfl) | (simp [*, errW_none, errW_some] <;> rfl), by (with_reducible repeat (first | apply Kd.R_alloc | apply Kd.R_drewN | apply Kd.R_drew)); exact HO_5.out, by repeat (first | (with_reducible first | exact HB.out | apply below_alloc | apply pw_below_drewN | apply below_drew1) | exact HB.out)⟩

end Go.Proofs.Ytpdilplgdbcjpaa.PRef
