/- GraphTurns and GraphSteps: the walks. -/
import Derived.Test.YtpdilplgdbcjpaaGwL
namespace Go.Proofs.Ytpdilplgdbcjpaa
open Go.RowKit Go.Maps Go.WideMaps PRef Go.Proofs.YtpdilplgdbcjpaaW.PrintWords Go.Shelf
set_option linter.unusedVariables false

theorem take_nd {w : World} {A : Option Addr} {g : List Gr.Nd} (hC : Kd.C k36 w A (g.map ofNd).length (g.map ofNd)) {k : Nat} (hk : k ≤ g.length) : Kd.C k36 w A ((g.take k).map ofNd).length ((g.take k).map ofNd) := by
  have h := Kd.C_take hC (m := k) (by rw [List.length_map]; exact hk)
  rw [← List.map_take] at h
  exact h
/-- Names of the first k nodes. -/
theorem names_c (g : List Gr.Nd) (A : Option Addr) (c : Nat) (w W : World) (hC : Kd.C k36 w A (g.map ofNd).length (g.map ofNd)) (hc : g.length ≤ c) (hg : g.length ≤ 1048576) (hb : Below w.heap.size w W) (k : Nat) (hk : k ≤ g.length) :
    Calls Try.prog 22 #[.slice A k c] W fun e w' => ∃ A3 c3, e = .returned (.slice A3 k c3) ∧ k ≤ c3 ∧ Kd.string.C w' A3 ((Gr.names (g.take k)).map ba).length ((Gr.names (g.take k)).map ba) ∧ Below w.heap.size w w' := by
  have hl : (g.take k).length = k := by rw [List.length_take]; omega
  have h := rnames_any (g.take k) A c W (Kd.C_below (take_nd hC hk) hb) (by omega) (by unfold big; omega)
  rw [hl] at h
  refine h.mono fun e w' h => ?_
  obtain ⟨v, rfl, h1, h2⟩ := h
  obtain ⟨A3, c3, rfl, h4, h5⟩ := own_C h1
  rw [names_len, hl] at h4
  rw [names_len, hl]
  exact ⟨A3, c3, rfl, h4, h5, bel_trans hb h2⟩
theorem place_c (L : List Str) (s : Str) (k : Nat) (hk : L.length = k) (A : Option Addr) (c : Nat) (w W : World) (hb : Below w.heap.size w W) (hC : Kd.string.C W A (L.map ba).length (L.map ba)) (hc : k ≤ c) (hL : k ≤ 1048576) (p : Int) (hp : Gr.placeP L s = p) :
    Calls Try.prog 21 #[.slice A k c, .string (ba s)] W fun e w' => e = .returned (.int .i64 p) ∧ Below w.heap.size w w' := by
  subst hk
  refine (place_any L s A c W hC hc (by unfold big; omega)).mono fun e w' h => ⟨by rw [h.1, hp], bel_trans hb h.2⟩
/-- 'l[:k]' of nodes. -/
theorem nd_cut {A : Option Addr} {n c : Nat} (hc : n ≤ c) (k : Nat) (hk : k ≤ n) (W : World) : (Instr.slice 22 (.slice A n c) none (some (.int .i64 (k : Int))) none).run Try.prog W = .ok (.slice A k c) W := by
  obtain ⟨i0, hi, hz0, hz1, hz2⟩ := info_parts info36
  have h := cut_to (P := Try.prog) 22 36 .i64 Try.underlying22 hi A n c (k : Int) (by omega) (by omega) hc W
  rw [Int.toNat_natCast] at h
  exact h
/-- 'l[:k]' of names. -/
theorem str_cut {A : Option Addr} {n c : Nat} (hc : n ≤ c) (k : Nat) (hk : k ≤ n) (W : World) : (Instr.slice 25 (.slice A n c) none (some (.int .i64 (k : Int))) none).run Try.prog W = .ok (.slice A k c) W := by
  obtain ⟨i0, hi, hz0, hz1, hz2⟩ := info_parts info9
  have h := cut_to (P := Try.prog) 25 9 .i64 Try.underlying25 hi A n c (k : Int) (by omega) (by omega) hc W
  rw [Int.toNat_natCast] at h
  exact h

/-- GraphTurns' loop: n nodes are left; those behind stand in the new row, turned. -/
structure TnI (w : World) (g : List Gr.Nd) (n : Nat) (v : Value) (rns : List RN) (W : World) : Prop where
  kl : n ≤ g.length
  nd : rns.map (·.nd) = (g.drop n).reverse
  ok : ∀ r ∈ rns, RNok w r
  row : W.ownsRow w.heap.size 36 2 v rns.length (rns.flatMap rnC)
  un : ∀ (k : Nat) d, n ≤ k → g[k]? = some d → Gr.placeP (Gr.names (g.take k)) d.name < 0
  bel : Below w.heap.size w W
theorem TnI.put {w : World} {g : List Gr.Nd} {n : Nat} {v v' : Value} {rns : List RN} {W W2 W3 : World} (h : TnI w g (n + 1) v rns W) {d : Gr.Nd} (hd : g[n]? = some d) {r : RN} (hr : r.nd = d) (hrok : RNok w r) (hp : Gr.placeP (Gr.names (g.take n)) d.name < 0) (hb : Below w.heap.size w W2)
    (hrow : W3.ownsRow w.heap.size 36 2 v' (rns.length + 1) (rns.flatMap rnC ++ rnC r)) (hg2 : W2.grownBy W3 v.ownBlock) : TnI w g n v' (rns ++ [r]) W3 := by
  refine ⟨Nat.le_of_succ_le h.kl, by rw [List.map_append, h.nd, drop_at hd]; simp [hr], ?_, by rw [List.length_append, rnC_snoc]; exact hrow, ?_, hb.grown hg2 hb.size (own_base h.row)⟩
  · intro q hq
    rcases List.mem_append.1 hq with hq | hq
    · exact h.ok q hq
    · rw [List.mem_singleton.1 hq]; exact hrok
  · intro k e hk he
    rcases Nat.eq_or_lt_of_le hk with rfl | hlt
    · rw [hd] at he
      rw [← Option.some.inj he]
      exact hp
    · exact h.un k e hlt he
set_option maxRecDepth 100000 in
set_option maxHeartbeats 4000000 in
theorem graphTurns_any (A : Option Addr) (l : List S36) (c : Nat) (w : World) (hc : l.length ≤ c) (hs : ∀ x ∈ l, NdW x) (hC : Kd.C k36 w A l.length l) :
    Calls Try.prog 7 #[.slice A l.length c] w fun e w' => e = .returned (.bool true) ∧ Below w.heap.size w w' := by
  obtain ⟨i0, hi, hz0, hz1, hz2⟩ := info_parts info36
  have hl0 : (l.map toNd).length = l.length := List.length_map _
  have HFW : Hid (∀ W, Below w.heap.size w W → Calls Try.prog 11 #[.slice A l.length c] W fun e w' => ∃ A2 c2, e = .returned (.slice A2 (fewP (l.map toNd)).length c2) ∧ (fewP (l.map toNd)).length ≤ c2 ∧ Kd.C k36 w' A2 ((fewP (l.map toNd)).map ofNd).length ((fewP (l.map toNd)).map ofNd) ∧ Below w.heap.size w w') := Lib.hid fun W hW => by
    have h := few_any (l.map toNd) A c W (by rw [map_of_to]; exact Kd.C_below hC hW) (by rw [hl0]; exact hc)
    rw [hl0] at h
    exact h.mono fun e w' h => by obtain ⟨A2, c2, h1, h2, h3, h4⟩ := h; exact ⟨A2, c2, h1, h2, h3, bel_trans hW h4⟩
  have HOK := Lib.hid (fewP_ok (nodes_arg hs))
  have HLN := Lib.hid (fewP_len (l.map toNd))
  clear hc hs hC hl0
  generalize fewP (l.map toNd) = g at *
  have hg : g.length ≤ 60 := HLN.out
  have hwm : wrap64 ((g.length : Int) - 1) = (g.length : Int) - 1 := by unfold wrap64; omega
  go_enter Try.func7, Try.ntmps7
  go_wp2_with (first
    | (go_at_call 10; refine (awake_any w).mono ?_; rintro e1 w1 ⟨rfl, hb1⟩)
    | (go_at_call 11; refine (HFW.out _ hb1).mono ?_; rintro e2 w2 ⟨A2, c2, rfl, hc2, hC2, hb2⟩))
  have HC2 := Lib.hid hC2
  have HB2 := Lib.hid hb2
  have HI0 : Hid (TnI w2 g g.length (.slice none 0 0) [] w2) := Lib.hid ⟨Nat.le_refl _, by simp, by simp, World.ownsRow_nil _ _ _ _, fun k d hk hd => by have := lt_len hd; omega, Below.refl _ _⟩
  clear hC2 hb2 hb1 HFW
  go_loopw [4, 5] (fun v4 v5 wr => ∃ (n : Nat) (rns : List RN), v5 = .int .i64 ((n : Int) - 1) ∧ Hid (TnI w2 g n v4 rns wr)) (fun _ v5 _ => (intOf v5 + 1).toNat)
  case atStart => exact ⟨g.length, [], rfl, HI0⟩
  case round =>
    obtain ⟨n, rns, rfl, HI⟩ := hrel
    have hnl := HI.out.kl
    cases n with
    | succ n =>
      rw [show (((n + 1 : Nat) : Int) - 1) = (n : Int) by omega]
      obtain ⟨d, hd⟩ : ∃ d, g[n]? = some d := ⟨_, List.getElem?_eq_getElem (by omega)⟩
      obtain ⟨ad, A1, c1, hA, x0, x1, hr⟩ := C_node HC2.out hd
      subst hA
      have HD := Lib.hid hd
      have HR := Lib.hid hr
      have x0w := cell_later HI.out.bel x0
      have x1w := cell_later HI.out.bel x1
      have HX : Hid (∀ W, Below wr.heap.size wr W → W.cell? (ad.add (n * 2)) = some (.string (ba d.name))) := Lib.hid fun W hW => cell_later hW x0w
      have HX1 : Hid (∀ W, Below wr.heap.size wr W → W.cell? ⟨(ad.add (n * 2)).block, (ad.add (n * 2)).off + 1, none⟩ = some (.slice A1 d.imps.length c1)) := Lib.hid fun W hW => cell_later hW x1w
      have y0 := x0w
      have hB0 := Below.refl wr.heap.size wr
      have HBR := Lib.hid HI.out.bel
      have HCR := Lib.hid (Kd.C_below HC2.out HI.out.bel)
      obtain ⟨p, hp⟩ : ∃ p, Gr.placeP (Gr.names (g.take n)) d.name = p := ⟨_, rfl⟩
      have HP := Lib.hid hp
      have hnk : n ≤ g.length := by omega
      have HNM : Hid (∀ W, Below wr.heap.size wr W → _) := Lib.hid fun W hW => names_c g (some ad) c2 wr W HCR.out hc2 (by omega) hW n hnk
      have HPL : Hid (∀ A3 c3 W, Below wr.heap.size wr W → Kd.string.C W A3 ((Gr.names (g.take n)).map ba).length ((Gr.names (g.take n)).map ba) → n ≤ c3 → _) := Lib.hid fun A3 c3 W hW hC hc => place_c (Gr.names (g.take n)) d.name n (by rw [names_len, List.length_take]; omega) A3 c3 wr W hW hC hc (by omega) p HP.out
      have q8 := nd_cut (A := some ad) hc2 n hnk
      have i0' : (0 : Int) ≤ (n : Int) := by omega
      have i1 : (n : Int) < (g.length : Int) := by omega
      have hwn : wrap64 ((n : Int) - 1) = (n : Int) - 1 := by unfold wrap64; omega
      have hrl : rns.length = g.length - (n + 1) := by
        have := congrArg List.length HI.out.nd
        rw [List.length_map, List.length_reverse, List.length_drop] at this
        exact this
      have hrl2 : rns.length ≤ 60 := by omega
      clear hd hr x0 x1 hp hrl x0w x1w
      go_wp2_with (fail)
      go_region_held3 (fun W : World => W.cell? (ad.add (n * 2)) = some (.string (ba d.name))) ((refine HX.out _ ?_; repeat (first | assumption | refine bel_drew ?_ | refine bel_drewN ?_ _))) (first | (go_at_call 22; refine (HNM.out _ (by repeat (first | assumption | refine bel_drew ?_ | refine bel_drewN ?_ _))).mono ?_; rintro e3 w3 ⟨A3, c3, rfl, hc3, hC3, hb3⟩) | (go_at_call 21; refine (HPL.out A3 c3 _ (by repeat (first | assumption | refine bel_drew ?_ | refine bel_drewN ?_ _)) (Kd.C_below hC3 (by repeat (first | assumption | exact Below.refl _ _ | refine bel_drew ?_ | refine bel_drewN ?_ _))) hc3).mono ?_; rintro e4 w4 ⟨rfl, hb4⟩))
      try clear hHeld
      have z0 := HX.out w4 hb4
      have z1 := HX1.out w4 hb4
      by_cases hp0 : 0 ≤ p
      · go_wp2_with (fail)
        go_ret
        exact ⟨rfl, HB2.out.trans ((HBR.out.trans (hb4.mono HBR.out.size)).mono HB2.out.size)⟩
      · have hp1 : p < 0 := by omega
        have hs4 := hb4.size
        have hsr := HBR.out.size
        go_wp2_with (first
          | (at_builtin; refine wpList_append_own _ rfl _ _ 22 rfl w2.heap.size 36 i0 (.agg #[.string ⟨#[]⟩, .slice none 0 0]) 2 40 Try.underlying22 hi hz0 hz1 hz2 rfl (by decide) u4 rns.length (rns.flatMap rnC) rfl (own_later HI.out.row (bel_alloc hb4 _)) ⟨w4.heap.size, 0, none⟩ 1 1 [.string (ba d.name), .slice A1 d.imps.length c1] rfl rfl (cell_two_new _ _ _ _) (by simp [Value.oneCell']) (by unfold maxLen; omega) (by omega) (by simp; omega) ?_; intro v' w6 hown6 hgrow6 hnil6; go_frame)
          | go_in)
        have HE := HI.out.put HD.out (r := ⟨d, A1, c1⟩) rfl HR.out (by rw [HP.out]; exact hp1) (HI.out.bel.trans ((bel_alloc hb4 _).mono hsr)) hown6 hgrow6
        have HEE := Lib.hid HE
        clear hown6 hgrow6 hnil6 HE
        go_roundw
        case rel => exact ⟨n, _, rfl, HEE⟩
        case measure => simp [intOf] <;> omega
    | zero =>
      have hE := rn_C HI.out.row (fun r hr => (HI.out.ok r hr).later HI.out.bel)
      obtain ⟨A9, c9, hv9, hc9, hC9⟩ := hE
      have hnd : (Gr.names g).Nodup := Gr.distinct_of (fun k d hd => HI.out.un k d (Nat.zero_le _) hd)
      have htn := Gr.turned_rev hnd
      have hrd : rns.map (·.nd) = g.reverse := by rw [HI.out.nd, List.drop_zero]
      have hlr : rns.length = g.reverse.length := by rw [← hrd, List.length_map]
      rw [hrd] at hC9
      rw [hlr] at hv9 hc9
      subst hv9
      obtain ⟨wo, rfl⟩ : ∃ wo, wo = wr := ⟨_, rfl⟩
      have HBO := Lib.hid HI.out.bel
      have HCG := Lib.hid (Kd.C_below HC2.out HI.out.bel)
      have HCT := Lib.hid hC9
      have hokr : ∀ d ∈ g.reverse, NdOk d := fun d hd => HOK.out d (List.mem_reverse.1 hd)
      have hgl : g.length ≤ 1048576 := by omega
      have hgr : g.reverse.length ≤ 1048576 := by rw [List.length_reverse]; omega
      have hng : (Gr.nodes g).length ≤ 1048576 := Nat.le_trans (nodes_len g) hgl
      have HO := Lib.hid (fun (W : World) hb => gorder_c g A2 c2 wo W HCG.out hc2 hgl HOK.out hb)
      have HT := Lib.hid (fun (W : World) hb => gorder_c g.reverse A9 c9 wo W HCT.out hc9 hgr hokr hb)
      have HCY := Lib.hid (fun (W : World) hb => rowR_c (gcyclic_any g A2 c2 wo W HCG.out hb hc2 hgl HOK.out) hb)
      have HCZ := Lib.hid (fun (W : World) hb => rowR_c (gcyclic_any g.reverse A9 c9 wo W HCT.out hb hc9 hgr hokr) hb)
      rw [htn.1, htn.2.1] at HT
      rw [htn.2.2] at HCZ
      have HLO := Lib.hid (Nat.le_trans (order_len (Gr.nodes g)) hng)
      have HLS := Lib.hid (Nat.le_trans (stuck_len (Gr.nodes g)) hng)
      have HLC := Lib.hid (Nat.le_trans (cyc_len (Gr.nodes g)) hng)
      clear htn hng HI hC9 hrd
      generalize Gr.orderP (Gr.nodes g) = o at *
      generalize Gr.stuckP (Gr.nodes g) = t at *
      generalize Gr.cycP (Gr.nodes g) = y at *
      rw [show (((0 : Nat) : Int) - 1) = -1 from rfl]
      generalize g.reverse.length = m9 at *
      have hb3 := Below.refl wo.heap.size wo
      go_wp2_with (first
        | (go_at_call 12; with_reducible refine (HO.out wo hb3).mono ?_; rintro e4 w4 ⟨Aa, ca, Ab, cb, rfl, la, Ca, lb, Cb, hb4, hb4'⟩)
        | (go_at_call 12; with_reducible refine (HT.out w4 hb4).mono ?_; rintro e5 w5 ⟨Ac, cc, Ad, cd, rfl, lc, Cc, ld, Cd, hb5, hb5'⟩)
        | (go_at_call 14; with_reducible refine (same_c o Aa Ac ca cc wo w5 hb5 (Kd.C_below Ca hb5') la Cc lc HLO.out).mono ?_; rintro e6 w6 ⟨rfl, hb6, hb6'⟩)
        | (go_at_call 14; with_reducible refine (same_c t Ab Ad cb cd wo w6 hb6 (Kd.C_below (Kd.C_below Cb hb5') hb6') lb (Kd.C_below Cd hb6') ld HLS.out).mono ?_; rintro e7 w7 ⟨rfl, hb7, hb7'⟩)
        | (go_at_call 15; with_reducible refine (HCY.out w7 hb7).mono ?_; rintro e8 w8 ⟨Ae, ce, rfl, le, Ce, hb8, hb8'⟩)
        | (go_at_call 15; with_reducible refine (HCZ.out w8 hb8).mono ?_; rintro e9 w9 ⟨Af, cf, rfl, lf, Cf, hb9, hb9'⟩)
        | (go_at_call 14; with_reducible refine (same_c y Ae Af ce cf wo w9 hb9 (Kd.C_below Ce hb9') le Cf lf HLC.out).mono ?_; rintro e10 w10 ⟨rfl, hb10, hb10'⟩)
        | go_in)
      go_ret
      exact ⟨rfl, HB2.out.trans ((HBO.out.trans (hb10.mono HBO.out.size)).mono HB2.out.size)⟩
end Go.Proofs.Ytpdilplgdbcjpaa
