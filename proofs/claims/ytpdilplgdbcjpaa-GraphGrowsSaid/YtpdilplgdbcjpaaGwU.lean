/- GraphGrows: the walk. -/
import Derived.Test.YtpdilplgdbcjpaaGwT
namespace Go.Proofs.Ytpdilplgdbcjpaa
open Go.RowKit Go.Maps Go.WideMaps PRef Go.Proofs.YtpdilplgdbcjpaaW.PrintWords Go.Shelf
set_option linter.unusedVariables false
set_option linter.unusedSimpArgs false

/-- What the region that puts the node behind, and asks for the order, leaves. -/
def GrRel (W8 : World) (c d : List Str) (s8 s9 : Value) (wx : World) : Prop :=
  ∃ Ac cc Ad cd, s8 = .slice Ac c.length cc ∧ s9 = .slice Ad d.length cd ∧ c.length ≤ cc ∧ Kd.string.C wx Ac (c.map ba).length (c.map ba) ∧ d.length ≤ cd ∧ Kd.string.C wx Ad (d.map ba).length (d.map ba) ∧ Below W8.heap.size W8 wx

/-- A loop that takes up all names but one. -/
structure FiI (w9 : World) (nm : Str) (L : List Str) (k : Nat) (F : List Str) (v : Value) (W : World) : Prop where
  kl : k ≤ L.length
  eq : F = (L.take k).filter (fun x => decide (x ≠ nm))
  row : W.ownsRow w9.heap.size 9 1 v F.length (F.map encStr)
  bel : Below w9.heap.size w9 W
theorem FiI.len {w9 : World} {nm : Str} {L : List Str} {k : Nat} {F : List Str} {v : Value} {W : World} (h : FiI w9 nm L k F v W) : F.length ≤ k := by
  rw [h.eq]
  exact Nat.le_trans (List.length_filter_le _ _) (by rw [List.length_take]; omega)
theorem FiI.skip {w9 : World} {nm : Str} {L : List Str} {k : Nat} {F : List Str} {v : Value} {W W2 : World} (h : FiI w9 nm L k F v W) {y : Str} (hy : L[k]? = some y) (e : y = nm) (hb : Below W.heap.size W W2) : FiI w9 nm L (k + 1) F v W2 :=
  ⟨lt_len hy, by rw [take_at hy, List.filter_append, ← h.eq]; simp [e], own_later h.row hb, bel_trans h.bel hb⟩
theorem FiI.put {w9 : World} {nm : Str} {L : List Str} {k : Nat} {F : List Str} {v v' : Value} {W W2 W3 : World} (h : FiI w9 nm L k F v W) {y : Str} (hy : L[k]? = some y) (e : y ≠ nm) (hb : Below W.heap.size W W2)
    (hrow : W3.ownsRow w9.heap.size 9 1 v' (F.length + 1) (F.map encStr ++ [.string (ba y)])) (hg : W2.grownBy W3 v.ownBlock) : FiI w9 nm L (k + 1) (F ++ [y]) v' W3 :=
  ⟨lt_len hy, by rw [take_at hy, List.filter_append, ← h.eq]; simp [e], by rw [List.length_append, List.length_singleton, List.map_append]; exact hrow, (bel_trans h.bel hb).grown hg (bel_trans h.bel hb).size (own_base h.row)⟩
theorem wr_two {a b : Nat} (ha : a ≤ 60) (hb : b ≤ 60) : wrap64 ((a : Int) + (b : Int)) = (a : Int) + (b : Int) := by unfold wrap64; omega
theorem wr_three {a b : Nat} (ha : a ≤ 60) (hb : b ≤ 60) : wrap64 ((a : Int) + (b : Int) + 1) = (a : Int) + (b : Int) + 1 := by unfold wrap64; omega
theorem geq_nat (i : Nat) : decide ((0 : Int) ≤ (i : Int)) = true := decide_eq_true (by omega)
attribute [local go_sem] geq_nat
set_option maxRecDepth 100000 in
set_option maxHeartbeats 40000000 in
theorem graphGrows_any (A : Option Addr) (l : List S36) (c : Nat) (x : S36) (AX : Option Addr) (cx : Nat) (w : World) (hc : l.length ≤ c) (hs : ∀ x ∈ l, NdW x) (hC : Kd.C k36 w A l.length l) (hcx : x.f1.length ≤ cx) (hx : NdW x) (hX : Kd.string.C w AX x.f1.length x.f1) :
    Calls Try.prog 9 #[.slice A l.length c, .agg #[.string x.f0, .slice AX x.f1.length cx]] w fun e w' => e = .returned (.bool true) ∧ Below w.heap.size w w' := by
  obtain ⟨i0, hi, hz0, hz1, hz2⟩ := info_parts info9
  have hl0 : (l.map toNd).length = l.length := List.length_map _
  have HFW : Hid (∀ W, Below w.heap.size w W → Calls Try.prog 11 #[.slice A l.length c] W fun e w' => ∃ A2 c2, e = .returned (.slice A2 (fewP (l.map toNd)).length c2) ∧ (fewP (l.map toNd)).length ≤ c2 ∧ Kd.C k36 w' A2 ((fewP (l.map toNd)).map ofNd).length ((fewP (l.map toNd)).map ofNd) ∧ Below w.heap.size w w' ∧ Below W.heap.size W w') := Lib.hid fun W hW => by
    have h := few_any (l.map toNd) A c W (by rw [map_of_to]; exact Kd.C_below hC hW) (by rw [hl0]; exact hc)
    rw [hl0] at h
    exact h.mono fun e w' h => by obtain ⟨A2, c2, h1, h2, h3, h4⟩ := h; exact ⟨A2, c2, h1, h2, h3, bel_trans hW h4, h4⟩
  have HOK := Lib.hid (fewP_ok (nodes_arg hs))
  have HLN := Lib.hid (fewP_len (l.map toNd))
  obtain ⟨nd, hnd⟩ : ∃ nd : Gr.Nd, x = ofNd nd := ⟨toNd x, (of_to x).symm⟩
  subst hnd
  have hil : (ofNd nd).f1.length = nd.imps.length := List.length_map _
  have HNDOK : Hid (nd.imps.length ≤ 40 → NdOk nd) := Lib.hid fun h40 => by
    have h := nodes_arg (l := [ofNd nd]) (fun y hy => by rw [List.mem_singleton.1 hy]; exact hx) (toNd (ofNd nd)) (by simp)
    have e : toNd (ofNd nd) = nd := by
      cases nd with
      | mk n i =>
        unfold toNd ofNd
        simp only [ba_toList]
        congr 1
        rw [List.map_map]
        conv => rhs; rw [← List.map_id i]
        exact List.map_congr_left fun s _ => ba_toList s
    rw [e] at h
    exact ⟨h.1, by unfold big; omega, h.2⟩
  have HX := Lib.hid (show RNok w ⟨nd, AX, cx⟩ from ⟨by rw [← hil]; exact hcx, hX⟩)
  rw [show (ofNd nd).f0 = ba nd.name from rfl, hil]
  have hcx2 : nd.imps.length ≤ 9223372036854775807 := by have := hX.2.1; rw [hil] at this; exact this
  clear hc hs hC hl0 hcx hx hX hil
  generalize fewP (l.map toNd) = g at *
  have hg : g.length ≤ 60 := HLN.out
  have HO : Hid (∀ (g' : List Gr.Nd), g'.length ≤ 61 → (∀ d ∈ g', NdOk d) → ∀ (A2 : Option Addr) (c2 : Nat) (w2 W : World), _ → _ → _ → _) := Lib.hid (fun g' hg' hok' (A2 : Option Addr) (c2 : Nat) (w2 W : World) h1 h2 hb => gorder_c g' A2 c2 w2 W h1 h2 (by omega) hok' hb)
  have HBX := Lib.hid (blk_new w (.cells #[.string (ba nd.name), .slice AX nd.imps.length cx] 36))
  have HB0 := Lib.hid (bel_alloc (Below.refl w.heap.size w) (.cells #[.string (ba nd.name), .slice AX nd.imps.length cx] 36))
  by_cases h40 : 40 < nd.imps.length
  · have i40 : (40 : Int) < (nd.imps.length : Int) := by omega
    go_enter Try.func9, Try.ntmps9
    go_wp2_with (first
      | (go_at_call 10; refine (awake_any _).mono ?_; rintro e1 w1 ⟨rfl, hb1⟩)
      | (go_at_call 11; refine (HFW.out _ (bel_trans HB0.out hb1)).mono ?_; rintro e2 w2 ⟨A2, c2, rfl, hc2, hC2, hb2, hb2'⟩; have hbx2 := blk_later hb2' (blk_later hb1 HBX.out); have y0 := (blk_cell hbx2 0).trans rfl; have y1 := (blk_cell hbx2 1).trans rfl))
    go_ret
    exact ⟨rfl, hb2⟩
  · have i40 : ¬ (40 : Int) < (nd.imps.length : Int) := by omega
    go_enter Try.func9, Try.ntmps9
    go_wp2_with (first
      | (go_at_call 10; refine (awake_any _).mono ?_; rintro e1 w1 ⟨rfl, hb1⟩)
      | (go_at_call 11; refine (HFW.out _ (bel_trans HB0.out hb1)).mono ?_; rintro e2 w2 ⟨A2, c2, rfl, hc2, hC2, hb2, hb2'⟩; have hbx2 := blk_later hb2' (blk_later hb1 HBX.out); have y0 := (blk_cell hbx2 0).trans rfl; have y1 := (blk_cell hbx2 1).trans rfl))
    have HN := Lib.hid (HNDOK.out (by omega))
    have HC2 := Lib.hid hC2
    have HB2 := Lib.hid hb2
    have HG2 := Lib.hid hbx2
    have hB2 := Below.refl w2.heap.size w2
    have HXN : Hid (∀ W, Below w2.heap.size w2 W → W.cell? ⟨w.heap.size, 0, none⟩ = some (.string (ba nd.name))) := Lib.hid fun W hW => cell_later hW y0
    have HXI : Hid (∀ W, Below w2.heap.size w2 W → W.cell? ⟨w.heap.size, 1, none⟩ = some (.slice AX nd.imps.length cx)) := Lib.hid fun W hW => cell_later hW y1
    have HXB : Hid (∀ W, Below w2.heap.size w2 W → RNok W ⟨nd, AX, cx⟩) := Lib.hid fun W hW => ((HX.out.later HB2.out).later hW)
    have HNM : Hid (∀ W, Below w2.heap.size w2 W → _) := Lib.hid fun W hW => names_c g A2 c2 w2 W HC2.out hc2 (by omega) hW g.length (Nat.le_refl _)
    have HPL : Hid (∀ p, Gr.placeP (Gr.names g) nd.name = p → ∀ A3 c3 W, Below w2.heap.size w2 W → Kd.string.C W A3 ((Gr.names (g.take g.length)).map ba).length ((Gr.names (g.take g.length)).map ba) → g.length ≤ c3 → _) := Lib.hid fun p hp A3 c3 W hW hC hc => place_c (Gr.names g) nd.name g.length (by rw [names_len]) A3 c3 w2 W hW (by rw [List.take_length] at hC; exact hC) hc (by omega) p hp
    have HU : Hid (∀ (W : World), Below w2.heap.size w2 W → _) := Lib.hid (fun (W : World) (hb : Below w2.heap.size w2 W) => rowR_c (gusers_any g A2 c2 nd.name w2 W HC2.out hb hc2 (by unfold big; omega) HOK.out) hb)
    have HUL : Hid ((Gr.usersP (Gr.nodes g) nd.name).length ≤ 60) := Lib.hid (Nat.le_trans (users_len _ _) (Nat.le_trans (nodes_len g) hg))
    have HUN : Hid ((Gr.usersP (Gr.nodes g) nd.name).length = 0 → ∀ d ∈ Gr.nodes g, nd.name ∉ d.imps) := Lib.hid fun h => Gr.usersP_nil.1 (List.length_eq_zero_iff.1 h)
    clear hC2 hb2 hb2' hb1 hbx2 HFW HBX HB0
    generalize Gr.usersP (Gr.nodes g) nd.name = us at *
    by_cases hm : nd.name ∈ Gr.names g
    · obtain ⟨i, hp, _⟩ := Gr.place_get hm
      first
        | (go_region_with (first | (go_at_call 22; refine (HNM.out _ (by repeat (first | assumption | refine bel_drew ?_ | refine bel_drewN ?_ _))).mono ?_; rintro e3 w3 ⟨A3, c3, rfl, hc3, hC3, hb3⟩; have y3 := HXN.out w3 hb3) | (go_at_call 21; refine (HPL.out _ hp A3 c3 _ (by repeat (first | assumption | refine bel_drew ?_ | refine bel_drewN ?_ _)) (Kd.C_below hC3 (by repeat (first | assumption | exact Below.refl _ _ | refine bel_drew ?_ | refine bel_drewN ?_ _))) hc3).mono ?_; rintro e4 w4 ⟨rfl, hb4⟩)))
        | fail
      all_goals
        go_wp2_with (fail)
        go_ret
        exact ⟨rfl, HB2.out.trans (Below.mono (by repeat (first | assumption | refine bel_drew ?_ | refine bel_drewN ?_ _)) HB2.out.size)⟩
    · have hp := Gr.place_not hm
      go_region_held3 (fun W : World => W.cell? ⟨w.heap.size, 0, none⟩ = some (.string (ba nd.name))) ((refine HXN.out _ ?_; repeat (first | assumption | refine bel_drew ?_ | refine bel_drewN ?_ _))) (first | (go_at_call 22; refine (HNM.out _ (by repeat (first | assumption | refine bel_drew ?_ | refine bel_drewN ?_ _))).mono ?_; rintro e3 w3 ⟨A3, c3, rfl, hc3, hC3, hb3⟩) | (go_at_call 21; refine (HPL.out _ hp A3 c3 _ (by repeat (first | assumption | refine bel_drew ?_ | refine bel_drewN ?_ _)) (Kd.C_below hC3 (by repeat (first | assumption | exact Below.refl _ _ | refine bel_drew ?_ | refine bel_drewN ?_ _))) hc3).mono ?_; rintro e4 w4 ⟨rfl, hb4⟩) | (go_at_call 19; refine (HU.out _ (by repeat (first | assumption | refine bel_drew ?_ | refine bel_drewN ?_ _))).mono ?_; rintro e5 w5 ⟨A5, c5, rfl, hc5, hC5, hb5, hb5'⟩))
      try clear hHeld
      by_cases hu : 0 < us.length
      · go_wp2_with (fail)
        go_ret
        exact ⟨rfl, HB2.out.trans (hb5.mono HB2.out.size)⟩
      · have HGR := Lib.hid (Gr.grown_more (l := g) (d := nd) (by rw [hp]; decide) (HUN.out (by omega)))
        go_upto_region 8 with (first
          | (go_at_call 12; with_reducible refine (HO.out g (by omega) HOK.out A2 c2 w2 w5 HC2.out hc2 hb5).mono ?_; rintro e6 w6 ⟨Aa, ca, Ab, cb, rfl, la, Ca, lb, Cb, hb6, hb6'⟩))
        have HXC : Hid (∀ W, Below w6.heap.size w6 W → W.cell? ⟨w.heap.size, 0, none⟩ = some (.string (ba nd.name)) ∧ W.cell? ⟨w.heap.size, 1, none⟩ = some (.slice AX nd.imps.length cx)) := Lib.hid fun W hW => ⟨HXN.out W (bel_trans hb6 hW), HXI.out W (bel_trans hb6 hW)⟩
        obtain ⟨rns, hrn, hrok, hR⟩ := rows_of HC2.out
        have HRL : g.length = rns.length := by rw [← hrn, List.length_map]
        have HRLH := Lib.hid HRL
        have HRB := Lib.hid (fun (W : World) (hb : Below w6.heap.size w6 W) => hR.later (bel_trans hb6 hb))
        have HRO := Lib.hid (fun (W : World) (hb : Below w6.heap.size w6 W) (r : RN) (hr : r ∈ rns ++ [⟨nd, AX, cx⟩]) => (show RNok W r from by
          rcases List.mem_append.1 hr with h | h
          · exact (hrok r h).later (bel_trans hb6 hb)
          · rw [List.mem_singleton.1 h]; exact HXB.out W (bel_trans hb6 hb)))
        have HFC := Lib.hid (fun (W : World) (v : Value) (hbe : Below w6.heap.size w6 W) (hown : W.ownsRow w6.heap.size 36 2 v (0 + g.length + 1) ([] ++ rns.flatMap rnC ++ [(⟨nd, AX, cx⟩ : RN)].flatMap rnC)) => (show ∃ A' c', v = .slice A' (g.length + 1) c' ∧ (g.length + 1) ≤ c' ∧ Kd.C k36 W A' ((g ++ [nd]).map ofNd).length ((g ++ [nd]).map ofNd) from by
          have h := rn_C (rns := rns ++ [⟨nd, AX, cx⟩]) (by rw [List.length_append, ← HRLH.out, List.flatMap_append, List.length_singleton]; simpa using hown) (HRO.out W hbe)
          rw [List.map_append, hrn, List.length_append, ← HRLH.out, List.length_singleton] at h
          exact h))
        have hok1 : ∀ d ∈ g ++ [nd], NdOk d := fun d hd => by
          rcases List.mem_append.1 hd with h | h
          · exact HOK.out d h
          · rw [List.mem_singleton.1 h]; exact HN.out
        have hgl : (g ++ [nd]).length = g.length + 1 := by simp
        have HCC := Lib.hid (fun (W : World) (hb : Below w6.heap.size w6 W) (A' : Option Addr) (c' : Nat) (hC : Kd.C k36 W A' ((g ++ [nd]).map ofNd).length ((g ++ [nd]).map ofNd)) (hl : (g.length + 1) ≤ c') => by
          have h := HO.out (g ++ [nd]) (by rw [hgl]; omega) hok1 A' c' W W hC (by rw [hgl]; exact hl) (Below.refl _ _)
          rw [hgl] at h
          exact h)
        have HFO : Hid ((Gr.orderP (Gr.nodes (g ++ [nd]))).filter (fun x => decide (x ≠ nd.name)) = Gr.orderP (Gr.nodes g) ∧ (Gr.stuckP (Gr.nodes (g ++ [nd]))).filter (fun x => decide (x ≠ nd.name)) = Gr.stuckP (Gr.nodes g)) := Lib.hid HGR.out.2.both
        have HFN : Hid ((Gr.orderP (Gr.nodes (g ++ [nd]))).length + (Gr.stuckP (Gr.nodes (g ++ [nd]))).length = (Gr.orderP (Gr.nodes g)).length + (Gr.stuckP (Gr.nodes g)).length + 1) := Lib.hid (by rw [Gr.counts (Gr.nodes_nodup _), Gr.counts (Gr.nodes_nodup _), HGR.out.1, List.length_append, List.length_singleton])
        have HLA := Lib.hid (Nat.le_trans (order_len (Gr.nodes g)) (Nat.le_trans (nodes_len g) hg))
        have HLB := Lib.hid (Nat.le_trans (stuck_len (Gr.nodes g)) (Nat.le_trans (nodes_len g) hg))
        have HB6 := Lib.hid (HB2.out.trans (hb6.mono HB2.out.size))
        have HCa := Lib.hid Ca
        have HCb := Lib.hid Cb
        have HBX6 : Hid (∀ W, Below w6.heap.size w6 W → W.heap[w.heap.size]? = some (.cells #[.string (ba nd.name), .slice AX nd.imps.length cx] 36 (0, 0))) := Lib.hid fun W hW => blk_later hW (blk_later hb6 HG2.out)
        have q0 := (HXC.out w6 (Below.refl _ _)).1
        have q1 := (HXC.out w6 (Below.refl _ _)).2
        clear hrn hrok hR hok1 hgl Ca Cb hb6 hb6' HRL y0 y1 HO HGR HX HXB HNM HPL HU hC3 hC5 hb3 hb4 hb5 hb5' HUN HUL
        generalize Gr.orderP (Gr.nodes g) = o at *
        generalize Gr.stuckP (Gr.nodes g) = t at *
        generalize Gr.orderP (Gr.nodes (g ++ [nd])) = o1 at *
        generalize Gr.stuckP (Gr.nodes (g ++ [nd])) = t1 at *
        go_cut [8, 9] from 44 (fun s8 s9 wx => GrRel w6 o1 t1 s8 s9 wx)
        case first =>
          have HRXW : Hid (∀ (W : World) (gx : Nat), W.heap[gx]? = some (.cells #[.string (ba nd.name), .slice AX nd.imps.length cx] 36 (0, 0)) → RowN W (some ⟨gx, 0, none⟩) [⟨nd, AX, cx⟩]) := Lib.hid fun W gx h => RowN.single (r := ⟨nd, AX, cx⟩) h
          go_region_held3 (fun W : World => W.cell? ⟨w.heap.size, 0, none⟩ = some (.string (ba nd.name)) ∧ W.cell? ⟨w.heap.size, 1, none⟩ = some (.slice AX nd.imps.length cx)) ((refine HXC.out _ ?_; (repeat (first | with_reducible assumption | with_reducible exact Below.refl _ _ | with_reducible refine bel_drew ?_ | with_reducible refine bel_alloc ?_ _ | exact Below.refl _ _ | refine bel_drew ?_ | refine bel_alloc ?_ _)))) (first
            | ((refine step_append_nds (W8 := w6) (by rfl) (.tmp 45) (.tmp 46) (by rfl) (.slice (some ⟨_, 0, none⟩) 0 0) 0 [] (by rfl) A2 rns c2 g.length HRLH.out (by rfl) (by omega) ?_ (HRB.out _ ?_) ?_ ?_); (iterate 1 (refine ownN_lit ?_ ?_)); (iterate 1 (repeat (first | with_reducible refine blk_drew ?_ | (focus (refine blk_newN _ _ _ ?_; simp; done)) | with_reducible refine blk_alloc ?_ _ | refine (HZ1.out _ _ ?_ ?_).1 | (focus (intro hqq; simp [Value.ownBlock] at hqq; done)) | (focus (intro hqq; simp [Value.ownBlock] at hqq; omega))))); (iterate 1 (first | exact Nat.le_refl _ | (focus omega) | (focus (simp; done)) | (focus (simp; omega)))); (iterate 1 (repeat (first | with_reducible assumption | with_reducible exact Below.refl _ _ | with_reducible refine bel_drew ?_ | with_reducible refine bel_alloc ?_ _ | exact Below.refl _ _ | refine bel_drew ?_ | refine bel_alloc ?_ _))); (iterate 1 (repeat (first | with_reducible assumption | with_reducible exact Below.refl _ _ | with_reducible refine bel_drew ?_ | with_reducible refine bel_alloc ?_ _ | exact Below.refl _ _ | refine bel_drew ?_ | refine bel_alloc ?_ _))); intro v1 wa hown1 hbel1 hz1; have hsa := hbel1.size; have HO1 := Lib.hid hown1; have HZ1 := Lib.hid hz1; clear hown1 hz1)
            | ((refine step_append_nds (W8 := w6) (by rfl) (.tmp 47) (.tmp 49) (by rfl) _ _ _ (by rfl) _ [⟨nd, AX, cx⟩] 1 1 rfl (by rfl) (by omega) (own_drewl HO1.out ?_) (HRXW.out _ _ ?_) ?_ ?_); (iterate 1 (repeat (first | with_reducible assumption | with_reducible exact Below.refl _ _ | with_reducible refine bel_drew ?_ | with_reducible refine bel_alloc ?_ _ | exact Below.refl _ _ | refine bel_drew ?_ | refine bel_alloc ?_ _))); (iterate 1 (repeat (first | with_reducible refine blk_drew ?_ | (focus (refine blk_newN _ _ _ ?_; simp; done)) | with_reducible refine blk_alloc ?_ _ | refine (HZ1.out _ _ ?_ ?_).1 | (focus (intro hqq; simp [Value.ownBlock] at hqq; done)) | (focus (intro hqq; simp [Value.ownBlock] at hqq; omega))))); (iterate 1 (repeat (first | with_reducible assumption | with_reducible exact Below.refl _ _ | with_reducible refine bel_drew ?_ | with_reducible refine bel_alloc ?_ _ | exact Below.refl _ _ | refine bel_drew ?_ | refine bel_alloc ?_ _))); intro v2 wb hown2 hbel2 hz2; have HO2 := Lib.hid hown2; clear hown2 hz2)
            | (go_at_call 12; obtain ⟨A', c', hv2, hle2, hC2'⟩ := HFC.out wb _ hbel2 HO2.out; subst hv2; refine (HCC.out _ ?_ A' c' (Kd.C_below hC2' ?_) hle2).mono ?_; (iterate 1 (repeat (first | with_reducible assumption | with_reducible exact Below.refl _ _ | with_reducible refine bel_drew ?_ | with_reducible refine bel_alloc ?_ _ | exact Below.refl _ _ | refine bel_drew ?_ | refine bel_alloc ?_ _))); (iterate 1 (repeat (first | with_reducible assumption | with_reducible exact Below.refl _ _ | with_reducible refine bel_drew ?_ | with_reducible refine bel_alloc ?_ _ | exact Below.refl _ _ | refine bel_drew ?_ | refine bel_alloc ?_ _))); rintro e w9 ⟨Ac, cc, Ad, cd, rfl, lc, Cc, ld, Cd, hb9, hb9'⟩; have hb99 : Below w6.heap.size w6 w9 := (by refine bel_trans ?_ hb9; (repeat (first | with_reducible assumption | with_reducible exact Below.refl _ _ | with_reducible refine bel_drew ?_ | with_reducible refine bel_alloc ?_ _ | exact Below.refl _ _ | refine bel_drew ?_ | refine bel_alloc ?_ _)))))
          all_goals
            go_wp2_with (fail)
            go_meet
            case rel => exact ⟨Ac, cc, Ad, cd, rfl, rfl, lc, Cc, ld, Cd, hb99⟩
        case rest =>
          obtain ⟨Ac, cc, Ad, cd, rfl, rfl, lc, Cc, ld, Cd, hb9⟩ := hcut
          have HQ0 : Hid (∀ W, Below wc.heap.size wc W → W.cell? ⟨w.heap.size, 0, none⟩ = some (.string (ba nd.name))) := Lib.hid fun W hW => (HXC.out W (bel_trans hb9 hW)).1
          have HCC9 := Lib.hid Cc
          have HCD9 := Lib.hid Cd
          have HB9 := Lib.hid hb9
          have hfn := HFN.out
          have hla := HLA.out
          have hlb := HLB.out
          have HFH : Hid (FiI wc nd.name o1 0 [] (.slice none 0 0) wc) := Lib.hid ⟨Nat.zero_le _, by simp, World.ownsRow_nil _ _ _ _, Below.refl _ _⟩
          clear Cc Cd hb9 q0 q1 HFC HCC HRB HRO HXN HXI HXC
          go_wp2_with (fail)
          go_loopw [10, 11] (fun v10 v11 wr => ∃ (k : Nat) (F : List Str), v11 = .int .i64 (k : Int) ∧ Hid (FiI wc nd.name o1 k F v10 wr)) (fun _ v11 _ => o1.length - (intOf v11).toNat)
          case atStart => exact ⟨0, [], rfl, HFH⟩
          case round =>
            obtain ⟨k, F, rfl, HI⟩ := hrel
            have hkl := HI.out.kl
            have hFk := HI.out.len
            by_cases hk : k < o1.length
            · obtain ⟨y, hy⟩ : ∃ y, o1[k]? = some y := ⟨_, List.getElem?_eq_getElem hk⟩
              obtain ⟨adx, hAx, x5⟩ := row_c HCC9.out hy
              have x6 := cell_later HI.out.bel x5
              have x7 := HQ0.out wr HI.out.bel
              have hwl := HI.out.bel.size
              have hrow := HI.out.row
              have k1 : (k : Int) < (o1.length : Int) := by omega
              have k0 : (0 : Int) ≤ (k : Int) := by omega
              have HY := Lib.hid hy
              clear hy x5
              subst hAx
              by_cases hyn : y = nd.name
              · have hyb : ((ba y).toList == (ba nd.name).toList) = true := by simp [ba_tl, hyn]
                go_wp2_with (fail)
                go_quiet (fail)
                have HE := Lib.hid (HI.out.skip HY.out hyn (bel_drewN (Below.refl wr.heap.size wr) nq))
                go_wp2_with (fail)
                go_roundw
                case rel => exact ⟨k + 1, F, by go_num, HE⟩
                case measure => simp [intOf]; omega
              · have hyb : ((ba y).toList == (ba nd.name).toList) = false := by rw [ba_tl, ba_tl]; exact beq_eq_false_iff_ne.2 hyn
                go_wp2_with (fail)
                go_quiet (fail)
                have hB0 := bel_drewN (Below.refl wr.heap.size wr) nq
                have hFm : F.length < maxLen := by unfold maxLen; omega
                have x8 := cell_later hB0 x6
                go_wp2_with (first
                  | (at_builtin; refine wpList_append_own _ rfl _ _ 25 rfl wc.heap.size 9 i0 (.string ⟨#[]⟩) 1 16 Try.underlying25 hi hz0 hz1 hz2 rfl (by decide) u10 F.length (F.map encStr) rfl (own_later hrow (bel_alloc hB0 _)) ⟨wr.heap.size, 0, none⟩ 1 1 [.string (ba y)] rfl rfl (one_news _ _ _) (by simp [Value.oneCell']) (by unfold maxLen; omega) (by omega) (by simp; omega) ?_; intro v' w7 hown7 hgrow7 hnil7; go_frame)
                  | go_in)
                have HE := Lib.hid (HI.out.put HY.out hyn (bel_alloc hB0 _) hown7 hgrow7)
                clear hown7 hgrow7 hnil7
                go_roundw
                case rel => exact ⟨k + 1, F ++ [y], by go_num, HE⟩
                case measure => simp [intOf]; omega
            · obtain rfl : k = o1.length := by omega
              have HB1 := Lib.hid HI.out.bel
              have hF1 := HI.out.eq.symm
              rw [List.take_length, HFO.out.1] at hF1
              obtain ⟨Ae, ce, hve, hle, hCe⟩ := own_C HI.out.row
              subst hve
              subst hF1
              have HCE := Lib.hid hCe
              have HFH2 : Hid (FiI wr nd.name t1 0 [] (.slice none 0 0) wr) := Lib.hid ⟨Nat.zero_le _, by simp, World.ownsRow_nil _ _ _ _, Below.refl _ _⟩
              have HCDr := Lib.hid (Kd.C_below HCD9.out HB1.out)
              have HQ1 : Hid (∀ W, Below wr.heap.size wr W → W.cell? ⟨w.heap.size, 0, none⟩ = some (.string (ba nd.name))) := Lib.hid fun W hW => HQ0.out W (bel_trans HB1.out hW)
              clear HI hFk hCe
              generalize hwrr : wr = wd at *
              clear hwrr
              go_wp2_with (fail)
              go_loopw [12, 13] (fun v12 v13 wr => ∃ (k : Nat) (F : List Str), v13 = .int .i64 (k : Int) ∧ Hid (FiI wd nd.name t1 k F v12 wr)) (fun _ v13 _ => t1.length - (intOf v13).toNat)
              case atStart => exact ⟨0, [], rfl, HFH2⟩
              case round =>
                obtain ⟨k, F, rfl, HI⟩ := hrel
                have hkl := HI.out.kl
                have hFk := HI.out.len
                by_cases hk : k < t1.length
                · obtain ⟨y, hy⟩ : ∃ y, t1[k]? = some y := ⟨_, List.getElem?_eq_getElem hk⟩
                  obtain ⟨adx, hAx, x5⟩ := row_c HCDr.out hy
                  have x6 := cell_later HI.out.bel x5
                  have x7 := HQ1.out wr HI.out.bel
                  have hwl := HI.out.bel.size
                  have hrow := HI.out.row
                  have k1 : (k : Int) < (t1.length : Int) := by omega
                  have k0 : (0 : Int) ≤ (k : Int) := by omega
                  have HY := Lib.hid hy
                  clear hy x5
                  subst hAx
                  by_cases hyn : y = nd.name
                  · have hyb : ((ba y).toList == (ba nd.name).toList) = true := by simp [ba_tl, hyn]
                    go_wp2_with (fail)
                    go_quiet (fail)
                    have HE := Lib.hid (HI.out.skip HY.out hyn (bel_drewN (Below.refl wr.heap.size wr) nq))
                    go_wp2_with (fail)
                    go_roundw
                    case rel => exact ⟨k + 1, F, by go_num, HE⟩
                    case measure => simp [intOf]; omega
                  · have hyb : ((ba y).toList == (ba nd.name).toList) = false := by rw [ba_tl, ba_tl]; exact beq_eq_false_iff_ne.2 hyn
                    go_wp2_with (fail)
                    go_quiet (fail)
                    have hB0 := bel_drewN (Below.refl wr.heap.size wr) nq
                    have hFm : F.length < maxLen := by unfold maxLen; omega
                    have x8 := cell_later hB0 x6
                    go_wp2_with (first
                      | (at_builtin; refine wpList_append_own _ rfl _ _ 25 rfl wd.heap.size 9 i0 (.string ⟨#[]⟩) 1 16 Try.underlying25 hi hz0 hz1 hz2 rfl (by decide) u12 F.length (F.map encStr) rfl (own_later hrow (bel_alloc hB0 _)) ⟨wr.heap.size, 0, none⟩ 1 1 [.string (ba y)] rfl rfl (one_news _ _ _) (by simp [Value.oneCell']) (by unfold maxLen; omega) (by omega) (by simp; omega) ?_; intro v' w7 hown7 hgrow7 hnil7; go_frame)
                      | go_in)
                    have HE := Lib.hid (HI.out.put HY.out hyn (bel_alloc hB0 _) hown7 hgrow7)
                    clear hown7 hgrow7 hnil7
                    go_roundw
                    case rel => exact ⟨k + 1, F ++ [y], by go_num, HE⟩
                    case measure => simp [intOf]; omega
                · obtain rfl : k = t1.length := by omega
                  have HB2' := Lib.hid HI.out.bel
                  have hF2 := HI.out.eq.symm
                  rw [List.take_length, HFO.out.2] at hF2
                  obtain ⟨Af, cf, hvf, hlf, hCf⟩ := own_C HI.out.row
                  subst hvf
                  subst hF2
                  have HCF := Lib.hid hCf
                  have HCEr := Lib.hid (Kd.C_below HCE.out HB2'.out)
                  have hBr := Below.refl wr.heap.size wr
                  have HCar := Lib.hid (Kd.C_below HCa.out (bel_trans HB9.out (bel_trans HB1.out HB2'.out)))
                  have HCbr := Lib.hid (Kd.C_below HCb.out (bel_trans HB9.out (bel_trans HB1.out HB2'.out)))
                  clear HI hFk hCf
                  have hws : wrap64 ((o1.length : Int) + (t1.length : Int)) = ((o1.length + t1.length : Nat) : Int) := by unfold wrap64; omega
                  have hwo : wrap64 ((o.length : Int) + (t.length : Int)) = (o.length : Int) + (t.length : Int) := wr_two HLA.out HLB.out
                  have hwo1 : wrap64 ((o.length : Int) + (t.length : Int) + 1) = (o.length : Int) + (t.length : Int) + 1 := wr_three HLA.out HLB.out
                  go_wp2_with (first
                    | (go_at_call 14; (first | (with_reducible refine (same_c o Ae Aa ce ca wr _ hBr HCEr.out hle HCar.out la (Nat.le_trans HLA.out (by decide))).mono ?_; rintro e4 w4 ⟨rfl, hb4, hb4'⟩) | (with_reducible refine (same_c t Af Ab cf cb wr _ hb4 (Kd.C_below HCF.out hb4) hlf (Kd.C_below HCbr.out hb4) lb (Nat.le_trans HLB.out (by decide))).mono ?_; rintro e5 w5 ⟨rfl, hb5, hb5'⟩))))
                  go_ret
                  refine ⟨?_, bel_trans HB6.out (bel_trans HB9.out (bel_trans HB1.out (bel_trans HB2'.out hb5)))⟩
                  first | rfl | simp
end Go.Proofs.Ytpdilplgdbcjpaa
