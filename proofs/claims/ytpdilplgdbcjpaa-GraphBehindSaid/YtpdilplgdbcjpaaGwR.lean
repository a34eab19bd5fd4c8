/- GraphBehind: the walk. -/
import Derived.Test.YtpdilplgdbcjpaaGwN
namespace Go.Proofs.Ytpdilplgdbcjpaa
open Go.RowKit Go.Maps Go.WideMaps PRef Go.Proofs.YtpdilplgdbcjpaaW.PrintWords Go.Shelf
set_option linter.unusedVariables false

set_option maxRecDepth 100000 in
set_option maxHeartbeats 4000000 in
theorem graphBehind_any (A : Option Addr) (l : List S36) (c : Nat) (w : World) (hc : l.length ≤ c) (hs : ∀ x ∈ l, NdW x) (hC : Kd.C k36 w A l.length l) :
    Calls Try.prog 5 #[.slice A l.length c] w fun e w' => e = .returned (.bool true) ∧ Below w.heap.size w w' := by
  have hl0 : (l.map toNd).length = l.length := List.length_map _
  have HFW : Hid (∀ W, Below w.heap.size w W → Calls Try.prog 11 #[.slice A l.length c] W fun e w' => ∃ A2 c2, e = .returned (.slice A2 (fewP (l.map toNd)).length c2) ∧ (fewP (l.map toNd)).length ≤ c2 ∧ Kd.C k36 w' A2 ((fewP (l.map toNd)).map ofNd).length ((fewP (l.map toNd)).map ofNd) ∧ Below w.heap.size w w') := Lib.hid fun W hW => by
    have h := few_any (l.map toNd) A c W (by rw [map_of_to]; exact Kd.C_below hC hW) (by rw [hl0]; exact hc)
    rw [hl0] at h
    exact h.mono fun e w' h => by obtain ⟨A2, c2, h1, h2, h3, h4⟩ := h; exact ⟨A2, c2, h1, h2, h3, bel_trans hW h4⟩
  have HOK := Lib.hid (fewP_ok (nodes_arg hs))
  have HLN := Lib.hid (fewP_len (l.map toNd))
  clear hc hs hC hl0
  generalize fewP (l.map toNd) = g at *
  have hg : g.length ≤ 60 := HLN.out
  have HLO := Lib.hid (Nat.le_trans (order_len (Gr.nodes g)) (Nat.le_trans (nodes_len g) hg))
  have HLT := Lib.hid (Nat.le_trans (stuck_len (Gr.nodes g)) (Nat.le_trans (nodes_len g) hg))
  have HO := Lib.hid (fun (A2 : Option Addr) (c2 : Nat) (w2 W : World) h1 h2 hb => gorder_c g A2 c2 w2 W h1 h2 (by omega) HOK.out hb)
  have HPL : Hid (∀ (i : Nat) (x : Str), (Gr.orderP (Gr.nodes g))[i]? = some x → Gr.placeP (Gr.orderP (Gr.nodes g)) x = i) := Lib.hid fun i x h => Gr.order_place h
  have HBO : Hid (∀ d ∈ Gr.nodes g, decide (0 ≤ Gr.placeP (Gr.orderP (Gr.nodes g)) d.name) ≠ decide (0 ≤ Gr.placeP (Gr.stuckP (Gr.nodes g)) d.name)) := Lib.hid fun d hd => Gr.behind_one hd
  have HBI : Hid (∀ d ∈ Gr.nodes g, 0 ≤ Gr.placeP (Gr.orderP (Gr.nodes g)) d.name → ∀ y ∈ d.imps, Gr.placeP (Gr.orderP (Gr.nodes g)) y < Gr.placeP (Gr.orderP (Gr.nodes g)) d.name ∧ Gr.placeP (Gr.stuckP (Gr.nodes g)) y < 0) := Lib.hid fun d hd ha y hy => Gr.behind_imp hd ha hy
  have HNF : Hid (∀ (i : Nat) (d : Gr.Nd), g[i]? = some d → Gr.placeP (Gr.names (g.take i)) d.name < 0 → d ∈ Gr.nodes g) := Lib.hid fun i d h1 h2 => Gr.nodes_first h1 h2
  generalize Gr.orderP (Gr.nodes g) = o at *
  generalize Gr.stuckP (Gr.nodes g) = t at *
  go_enter Try.func5, Try.ntmps5
  go_wp2_with (first
    | (go_at_call 10; refine (awake_any w).mono ?_; rintro e1 w1 ⟨rfl, hb1⟩)
    | (go_at_call 11; refine (HFW.out _ hb1).mono ?_; rintro e2 w2 ⟨A2, c2, rfl, hc2, hC2, hb2⟩)
    | (go_at_call 12; with_reducible refine (HO.out A2 c2 w2 w2 hC2 hc2 (Below.refl _ _)).mono ?_; rintro e4 w4 ⟨Aa, ca, Ab, cb, rfl, la, Ca, lb, Cb, hb4, hb4'⟩))
  have HC2 := Lib.hid (Kd.C_below hC2 hb4)
  have HB2 := Lib.hid (hb2.trans (hb4.mono hb2.size))
  have HCa := Lib.hid Ca
  have HCb := Lib.hid Cb
  have hol : o.length ≤ 60 := HLO.out
  have htl : t.length ≤ 60 := HLT.out
  have hB4 := Lib.hid (Below.refl w4.heap.size w4)
  have HPO : Hid (∀ (s : Str) (W : World), Below w4.heap.size w4 W → ∀ p, Gr.placeP o s = p → _) := Lib.hid fun s W hW p hp => place_c o s o.length rfl Aa ca w4 W hW (Kd.C_below HCa.out hW) la (by omega) p hp
  have HPT : Hid (∀ (s : Str) (W : World), Below w4.heap.size w4 W → ∀ p, Gr.placeP t s = p → _) := Lib.hid fun s W hW p hp => place_c t s t.length rfl Ab cb w4 W hW (Kd.C_below HCb.out hW) lb (by omega) p hp
  clear hC2 hb2 hb4 hb4' Ca Cb hb1 HFW HO
  go_loopw [6] (fun v6 wr => ∃ i : Nat, v6 = .int .i64 (i : Int) ∧ Hid (i ≤ g.length ∧ Below w4.heap.size w4 wr)) (fun v6 _ => g.length - (intOf v6).toNat)
  case atStart => exact ⟨0, rfl, Lib.hid ⟨Nat.zero_le _, hB4.out⟩⟩
  case round =>
    obtain ⟨n, rfl, HI⟩ := hrel
    have hnk := HI.out.1
    have i0' : (0 : Int) ≤ (n : Int) := by omega
    by_cases hlt : n < g.length
    · obtain ⟨d, hd⟩ : ∃ d, g[n]? = some d := ⟨_, List.getElem?_eq_getElem (by omega)⟩
      obtain ⟨ad, A1, c1, hA, x0, x1, hr⟩ := C_node HC2.out hd
      subst hA
      have HD := Lib.hid hd
      have HR := Lib.hid hr
      have HX : Hid (∀ W, Below w4.heap.size w4 W → W.cell? (ad.add (n * 2)) = some (.string (ba d.name))) := Lib.hid fun W hW => cell_later hW x0
      have HX1 : Hid (∀ W, Below w4.heap.size w4 W → W.cell? ⟨(ad.add (n * 2)).block, (ad.add (n * 2)).off + 1, none⟩ = some (.slice A1 d.imps.length c1)) := Lib.hid fun W hW => cell_later hW x1
      have y0 := HX.out wr HI.out.2
      have hB0 := HI.out.2
      obtain ⟨p, hp⟩ : ∃ p, Gr.placeP (Gr.names (g.take n)) d.name = p := ⟨_, rfl⟩
      have HP := Lib.hid hp
      have HNM : Hid (∀ W, Below w4.heap.size w4 W → _) := Lib.hid fun W hW => names_c g (some ad) c2 w4 W HC2.out hc2 (by omega) hW n hnk
      have HPL3 : Hid (∀ A3 c3 W, Below w4.heap.size w4 W → Kd.string.C W A3 ((Gr.names (g.take n)).map ba).length ((Gr.names (g.take n)).map ba) → n ≤ c3 → _) := Lib.hid fun A3 c3 W hW hC hc => place_c (Gr.names (g.take n)) d.name n (by rw [names_len, List.length_take]; omega) A3 c3 w4 W hW hC hc (by omega) p HP.out
      have q8 := nd_cut (A := some ad) hc2 n hnk
      have i1 : (n : Int) < (g.length : Int) := by omega
      clear hd hr x0 x1 hp
      go_wp2_with (fail)
      go_region_held3 (fun W : World => W.cell? (ad.add (n * 2)) = some (.string (ba d.name))) ((refine HX.out _ ?_; repeat (first | assumption | refine bel_drew ?_ | refine bel_drewN ?_ _))) (first | (go_at_call 22; refine (HNM.out _ (by repeat (first | assumption | refine bel_drew ?_ | refine bel_drewN ?_ _))).mono ?_; rintro e3 w3 ⟨A3, c3, rfl, hc3, hC3, hb3⟩) | (go_at_call 21; refine (HPL3.out A3 c3 _ (by repeat (first | assumption | refine bel_drew ?_ | refine bel_drewN ?_ _)) (Kd.C_below hC3 (by repeat (first | assumption | exact Below.refl _ _ | refine bel_drew ?_ | refine bel_drewN ?_ _))) hc3).mono ?_; rintro e5 w5 ⟨rfl, hb5⟩))
      try clear hHeld
      have z0 := HX.out w5 hb5
      have z1 := HX1.out w5 hb5
      by_cases hp0 : 0 ≤ p
      · have HBE := Lib.hid hb5
        go_wp2_with (fail)
        go_roundw
        case rel => exact ⟨n + 1, by go_num, Lib.hid ⟨by omega, HBE.out⟩⟩
        case measure => simp [intOf]; omega
      · have hmem := HNF.out n d HD.out (by rw [HP.out]; omega)
        have HMEM := Lib.hid hmem
        obtain ⟨at_, hat⟩ : ∃ x, Gr.placeP o d.name = x := ⟨_, rfl⟩
        obtain ⟨st, hst⟩ : ∃ x, Gr.placeP t d.name = x := ⟨_, rfl⟩
        have hone := HBO.out d hmem
        rw [hat, hst] at hone
        have HAT := Lib.hid hat
        have HST := Lib.hid hst
        clear hmem hat hst
        by_cases ha0 : 0 ≤ at_
        · have hs0 : ¬ 0 ≤ st := fun h => hone (by rw [decide_eq_true ha0, decide_eq_true h])
          clear hone
          go_wp2_with (first
            | (go_at_call 21; with_reducible refine (HPO.out d.name w5 hb5 at_ HAT.out).mono ?_; rintro e6 w6 ⟨rfl, hb6⟩; have z2 := HX.out w6 hb6)
            | (go_at_call 21; with_reducible refine (HPT.out d.name w6 hb6 st HST.out).mono ?_; rintro e7 w7 ⟨rfl, hb7⟩; have z3 := HX1.out w7 hb7))
          clear z0 z1 z2 z3
          go_loopw [8] (fun v8 wr => ∃ k : Nat, v8 = .int .i64 (k : Int) ∧ Hid (k ≤ d.imps.length ∧ Below w4.heap.size w4 wr)) (fun v8 _ => d.imps.length - (intOf v8).toNat)
          case atStart => exact ⟨0, rfl, Lib.hid ⟨Nat.zero_le _, hb7⟩⟩
          case round =>
            obtain ⟨k, rfl, HK⟩ := hrel
            have hkl := HK.out.1
            have hil := (HOK.out d (List.mem_of_getElem? HD.out)).2.1
            unfold big at hil
            have z4 := HX1.out wr HK.out.2
            by_cases hk : k < d.imps.length
            · obtain ⟨y, hy⟩ : ∃ y, d.imps[k]? = some y := ⟨_, List.getElem?_eq_getElem hk⟩
              obtain ⟨adx, hAx, x5⟩ := row_c HR.out.2 hy
              have hAx1 : A1 = some adx := hAx
              have x6 := cell_later HK.out.2 x5
              obtain ⟨np, hnp⟩ : ∃ x, Gr.placeP o y = x := ⟨_, rfl⟩
              obtain ⟨mp, hmp⟩ : ∃ x, Gr.placeP t y = x := ⟨_, rfl⟩
              have him := HBI.out d HMEM.out (by rw [HAT.out]; exact ha0) y (List.mem_of_getElem? hy)
              rw [hnp, HAT.out, hmp] at him
              have h1 : ¬ at_ ≤ np := by omega
              have h2 : ¬ 0 ≤ mp := by omega
              have HNP := Lib.hid hnp
              have HMP := Lib.hid hmp
              have HXY : Hid (∀ W, Below w4.heap.size w4 W → W.cell? (adx.add k) = some (.string (ba y))) := Lib.hid fun W hW => cell_later hW x5
              have k1 : (k : Int) < (d.imps.length : Int) := by omega
              have k0 : (0 : Int) ≤ (k : Int) := by omega
              clear hy x5 hnp hmp him hAx
              rw [hAx1] at z4
              go_wp2_with (first
                | (go_at_call 21; with_reducible refine (HPO.out y wr HK.out.2 np HNP.out).mono ?_; rintro e8 w8 ⟨rfl, hb8⟩; have z5 := HX1.out w8 hb8; rw [hAx1] at z5; have z6 := HXY.out w8 hb8)
                | (go_at_call 21; with_reducible refine (HPT.out y w8 hb8 mp HMP.out).mono ?_; rintro e9 w9 ⟨rfl, hb9⟩))
              have HB9 := Lib.hid hb9
              go_roundw
              case rel => exact ⟨k + 1, by go_num, Lib.hid ⟨by omega, HB9.out⟩⟩
              case measure => simp [intOf]; omega
            · obtain rfl : k = d.imps.length := by omega
              have HB9 := Lib.hid HK.out.2
              go_wp2_with (fail)
              go_roundw
              case rel => exact ⟨n + 1, by go_num, Lib.hid ⟨by omega, HB9.out⟩⟩
              case measure => simp [intOf]; omega
        · have hs0 : 0 ≤ st := by
            apply Classical.byContradiction
            intro h
            exact hone (by rw [decide_eq_false ha0, decide_eq_false h])
          clear hone
          go_wp2_with (first
            | (go_at_call 21; with_reducible refine (HPO.out d.name w5 hb5 at_ HAT.out).mono ?_; rintro e6 w6 ⟨rfl, hb6⟩; have z2 := HX.out w6 hb6)
            | (go_at_call 21; with_reducible refine (HPT.out d.name w6 hb6 st HST.out).mono ?_; rintro e7 w7 ⟨rfl, hb7⟩; have z3 := HX1.out w7 hb7))
          clear z0 z1 z2 z3
          go_loopw [8] (fun v8 wr => ∃ k : Nat, v8 = .int .i64 (k : Int) ∧ Hid (k ≤ d.imps.length ∧ Below w4.heap.size w4 wr)) (fun v8 _ => d.imps.length - (intOf v8).toNat)
          case atStart => exact ⟨0, rfl, Lib.hid ⟨Nat.zero_le _, hb7⟩⟩
          case round =>
            obtain ⟨k, rfl, HK⟩ := hrel
            have hkl := HK.out.1
            have hil := (HOK.out d (List.mem_of_getElem? HD.out)).2.1
            unfold big at hil
            have z4 := HX1.out wr HK.out.2
            by_cases hk : k < d.imps.length
            · have k1 : (k : Int) < (d.imps.length : Int) := by omega
              have HB9 := Lib.hid HK.out.2
              go_wp2_with (fail)
              go_roundw
              case rel => exact ⟨n + 1, by go_num, Lib.hid ⟨by omega, HB9.out⟩⟩
              case measure => simp [intOf]; omega
            · obtain rfl : k = d.imps.length := by omega
              have HB9 := Lib.hid HK.out.2
              go_wp2_with (fail)
              go_roundw
              case rel => exact ⟨n + 1, by go_num, Lib.hid ⟨by omega, HB9.out⟩⟩
              case measure => simp [intOf]; omega
    · obtain rfl : n = g.length := by omega
      have HB9 := Lib.hid HI.out.2
      go_wp2_with (fail)
      go_loopw [10] (fun v10 wr => ∃ k : Nat, v10 = .int .i64 (k : Int) ∧ Hid (k ≤ o.length ∧ Below w4.heap.size w4 wr)) (fun v10 _ => o.length - (intOf v10).toNat)
      case atStart => exact ⟨0, rfl, Lib.hid ⟨Nat.zero_le _, HB9.out⟩⟩
      case round =>
        obtain ⟨k, rfl, HK⟩ := hrel
        have hkl := HK.out.1
        by_cases hk : k < o.length
        · obtain ⟨y, hy⟩ : ∃ y, o[k]? = some y := ⟨_, List.getElem?_eq_getElem hk⟩
          obtain ⟨adx, hAx, x5⟩ := row_c HCa.out hy
          have x6 := cell_later HK.out.2 x5
          have HNP := Lib.hid (HPL.out k y hy)
          have k1 : (k : Int) < (o.length : Int) := by omega
          have k0 : (0 : Int) ≤ (k : Int) := by omega
          have hcall := HPO.out y wr HK.out.2 (k : Int) HNP.out
          rw [hAx] at hcall
          have HCALL := Lib.hid hcall
          clear hy x5 hcall
          rw [hAx]
          go_wp2_with (first
            | (go_at_call 21; with_reducible refine HCALL.out.mono ?_; rintro e8 w8 ⟨rfl, hb8⟩))
          have HB8 := Lib.hid hb8
          go_roundw
          case rel => exact ⟨k + 1, by go_num, Lib.hid ⟨by omega, HB8.out⟩⟩
          case measure => simp [intOf]; omega
        · obtain rfl : k = o.length := by omega
          have HB8 := HK.out.2
          go_wp2_with (fail)
          go_ret
          exact ⟨rfl, HB2.out.trans (HB8.mono HB2.out.size)⟩
end Go.Proofs.Ytpdilplgdbcjpaa
