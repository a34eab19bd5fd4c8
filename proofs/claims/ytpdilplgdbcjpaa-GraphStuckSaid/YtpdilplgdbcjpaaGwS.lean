/- GraphStuck: the walk. -/
import Derived.Test.YtpdilplgdbcjpaaGwN
namespace Go.Proofs.Ytpdilplgdbcjpaa
open Go.RowKit Go.Maps Go.WideMaps PRef Go.Proofs.YtpdilplgdbcjpaaW.PrintWords Go.Shelf
set_option linter.unusedVariables false

set_option maxRecDepth 100000 in
set_option maxHeartbeats 4000000 in
theorem graphStuck_any (A : Option Addr) (l : List S36) (c : Nat) (w : World) (hc : l.length ≤ c) (hs : ∀ x ∈ l, NdW x) (hC : Kd.C k36 w A l.length l) :
    Calls Try.prog 6 #[.slice A l.length c] w fun e w' => e = .returned (.bool true) ∧ Below w.heap.size w w' := by
  have hl0 : (l.map toNd).length = l.length := List.length_map _
  have HFW : Hid (∀ W, Below w.heap.size w W → Calls Try.prog 11 #[.slice A l.length c] W fun e w' => ∃ A2 c2, e = .returned (.slice A2 (fewP (l.map toNd)).length c2) ∧ (fewP (l.map toNd)).length ≤ c2 ∧ Kd.C k36 w' A2 ((fewP (l.map toNd)).map ofNd).length ((fewP (l.map toNd)).map ofNd) ∧ Below w.heap.size w w') := Lib.hid fun W hW => by
    have h := few_any (l.map toNd) A c W (by rw [map_of_to]; exact Kd.C_below hC hW) (by rw [hl0]; exact hc)
    rw [hl0] at h
    exact h.mono fun e w' h => by obtain ⟨A2, c2, h1, h2, h3, h4⟩ := h; exact ⟨A2, c2, h1, h2, h3, bel_trans hW h4⟩
  have HOK := Lib.hid (fewP_ok (nodes_arg hs))
  have HLN := Lib.hid (fewP_len (l.map toNd))
  clear hc hs hC hl0
  generalize fewP (l.map toNd) = g at *
  have hg : g.length ≤ 60 := HLN.out
  have HLO := Lib.hid (Nat.le_trans (order_len (Gr.nodes g)) (Nat.le_trans (nodes_len g) hg))
  have HLT := Lib.hid (Nat.le_trans (stuck_len (Gr.nodes g)) (Nat.le_trans (nodes_len g) hg))
  have HO := Lib.hid (fun (A2 : Option Addr) (c2 : Nat) (w2 W : World) h1 h2 hb => gorder_c g A2 c2 w2 W h1 h2 (by omega) HOK.out hb)
  have HCY := Lib.hid (fun (A2 : Option Addr) (c2 : Nat) (w2 W : World) h1 h2 (hb : Below w2.heap.size w2 W) => rowR_c (gcyclic_any g A2 c2 w2 W h1 hb h2 (by omega) HOK.out) hb)
  have HSC : Hid (∀ x ∈ Gr.cycP (Gr.nodes g), 0 ≤ Gr.placeP (Gr.stuckP (Gr.nodes g)) x) := Lib.hid fun x hx => Gr.stuck_cyc hx
  have HSI : Hid (∀ d ∈ Gr.nodes g, (decide (0 ≤ Gr.placeP (Gr.cycP (Gr.nodes g)) d.name) || d.imps.any (fun y => decide (0 ≤ Gr.placeP (Gr.stuckP (Gr.nodes g)) y))) = decide (0 ≤ Gr.placeP (Gr.stuckP (Gr.nodes g)) d.name)) := Lib.hid fun d hd => Gr.stuck_iff hd
  have HLY := Lib.hid (Nat.le_trans (cyc_len (Gr.nodes g)) (Nat.le_trans (nodes_len g) hg))
  have HNF : Hid (∀ (i : Nat) (d : Gr.Nd), g[i]? = some d → Gr.placeP (Gr.names (g.take i)) d.name < 0 → d ∈ Gr.nodes g) := Lib.hid fun i d h1 h2 => Gr.nodes_first h1 h2
  generalize Gr.orderP (Gr.nodes g) = o at *
  generalize Gr.stuckP (Gr.nodes g) = t at *
  generalize Gr.cycP (Gr.nodes g) = o2 at *
  go_enter Try.func6, Try.ntmps6
  go_wp2_with (first
    | (go_at_call 10; refine (awake_any w).mono ?_; rintro e1 w1 ⟨rfl, hb1⟩)
    | (go_at_call 11; refine (HFW.out _ hb1).mono ?_; rintro e2 w2 ⟨A2, c2, rfl, hc2, hC2, hb2⟩)
    | (go_at_call 12; with_reducible refine (HO.out A2 c2 w2 w2 hC2 hc2 (Below.refl _ _)).mono ?_; rintro e3 w3 ⟨Ao, co, Ab, cb, rfl, lo, Co, lb, Cb, hb3, hb3'⟩)
    | (go_at_call 15; with_reducible refine (HCY.out A2 c2 w2 w3 hC2 hc2 hb3).mono ?_; rintro e4 w4 ⟨Aa, ca, rfl, la, Ca, hb4, hb4'⟩))
  have HC2 := Lib.hid (Kd.C_below hC2 hb4)
  have HB2 := Lib.hid (hb2.trans (hb4.mono hb2.size))
  have HCa := Lib.hid Ca
  have HCb := Lib.hid (Kd.C_below Cb hb4')
  have hol : o2.length ≤ 60 := HLY.out
  have htl : t.length ≤ 60 := HLT.out
  have hB4 := Lib.hid (Below.refl w4.heap.size w4)
  have HPO : Hid (∀ (s : Str) (W : World), Below w4.heap.size w4 W → ∀ p, Gr.placeP o2 s = p → _) := Lib.hid fun s W hW p hp => place_c o2 s o2.length rfl Aa ca w4 W hW (Kd.C_below HCa.out hW) la (by omega) p hp
  have HPT : Hid (∀ (s : Str) (W : World), Below w4.heap.size w4 W → ∀ p, Gr.placeP t s = p → _) := Lib.hid fun s W hW p hp => place_c t s t.length rfl Ab cb w4 W hW (Kd.C_below HCb.out hW) lb (by omega) p hp
  clear hC2 hb2 hb3 hb3' hb4 hb4' Ca Cb hb1 HFW HO HCY Co
  go_loopw [7] (fun v7 wr => ∃ k : Nat, v7 = .int .i64 (k : Int) ∧ Hid (k ≤ o2.length ∧ Below w4.heap.size w4 wr)) (fun v7 _ => o2.length - (intOf v7).toNat)
  case atStart => exact ⟨0, rfl, Lib.hid ⟨Nat.zero_le _, hB4.out⟩⟩
  case round =>
    obtain ⟨k, rfl, HK⟩ := hrel
    have hkl := HK.out.1
    by_cases hk : k < o2.length
    · obtain ⟨y, hy⟩ : ∃ y, o2[k]? = some y := ⟨_, List.getElem?_eq_getElem hk⟩
      obtain ⟨adx, hAx, x5⟩ := row_c HCa.out hy
      have x6 := cell_later HK.out.2 x5
      have hsc := HSC.out y (List.mem_of_getElem? hy)
      obtain ⟨np, hnp⟩ : ∃ x, Gr.placeP t y = x := ⟨_, rfl⟩
      rw [hnp] at hsc
      have hsc2 : ¬ np < 0 := by omega
      have HNP := Lib.hid hnp
      have k1 : (k : Int) < (o2.length : Int) := by omega
      have k0 : (0 : Int) ≤ (k : Int) := by omega
      have HCALL := Lib.hid (HPT.out y wr HK.out.2 np HNP.out)
      clear hy x5 hnp
      rw [hAx]
      go_wp2_with (first
        | (go_at_call 21; with_reducible refine HCALL.out.mono ?_; rintro e8 w8 ⟨rfl, hb8⟩))
      have HB8 := Lib.hid hb8
      go_roundw
      case rel => exact ⟨k + 1, by go_num, Lib.hid ⟨by omega, HB8.out⟩⟩
      case measure => simp [intOf]; omega
    · obtain rfl : k = o2.length := by omega
      have HBE := Lib.hid HK.out.2
      go_wp2_with (fail)
      go_loopw [8] (fun v8 wr => ∃ i : Nat, v8 = .int .i64 (i : Int) ∧ Hid (i ≤ g.length ∧ Below w4.heap.size w4 wr)) (fun v8 _ => g.length - (intOf v8).toNat)
      case atStart => exact ⟨0, rfl, Lib.hid ⟨Nat.zero_le _, HBE.out⟩⟩
      case round =>
        obtain ⟨n, rfl, HI⟩ := hrel
        have hnk := HI.out.1
        have i0' : (0 : Int) ≤ (n : Int) := by omega
        by_cases hlt : n < g.length
        · obtain ⟨d, hd⟩ : ∃ d, g[n]? = some d := ⟨_, List.getElem?_eq_getElem (by omega)⟩
          obtain ⟨ad, A1, c1, hA, x0, x1, hr⟩ := C_node HC2.out hd
          subst hA
          have HD := Lib.hid hd
          have HR := Lib.hid hr
          have HX : Hid (∀ W, Below w4.heap.size w4 W → W.cell? (ad.add (n * 2)) = some (.string (ba d.name))) := Lib.hid fun W hW => cell_later hW x0
          have HX1 : Hid (∀ W, Below w4.heap.size w4 W → W.cell? ⟨(ad.add (n * 2)).block, (ad.add (n * 2)).off + 1, none⟩ = some (.slice A1 d.imps.length c1)) := Lib.hid fun W hW => cell_later hW x1
          have y0 := HX.out wr HI.out.2
          have hB0 := HI.out.2
          obtain ⟨p, hp⟩ : ∃ p, Gr.placeP (Gr.names (g.take n)) d.name = p := ⟨_, rfl⟩
          have HP := Lib.hid hp
          have HNM : Hid (∀ W, Below w4.heap.size w4 W → _) := Lib.hid fun W hW => names_c g (some ad) c2 w4 W HC2.out hc2 (by omega) hW n hnk
          have HPL3 : Hid (∀ A3 c3 W, Below w4.heap.size w4 W → Kd.string.C W A3 ((Gr.names (g.take n)).map ba).length ((Gr.names (g.take n)).map ba) → n ≤ c3 → _) := Lib.hid fun A3 c3 W hW hC hc => place_c (Gr.names (g.take n)) d.name n (by rw [names_len, List.length_take]; omega) A3 c3 w4 W hW hC hc (by omega) p HP.out
          have q8 := nd_cut (A := some ad) hc2 n hnk
          have i1 : (n : Int) < (g.length : Int) := by omega
          clear hd hr x0 x1 hp
          go_wp2_with (fail)
          go_region_held3 (fun W : World => W.cell? (ad.add (n * 2)) = some (.string (ba d.name))) ((refine HX.out _ ?_; repeat (first | assumption | refine bel_drew ?_ | refine bel_drewN ?_ _))) (first | (go_at_call 22; refine (HNM.out _ (by repeat (first | assumption | refine bel_drew ?_ | refine bel_drewN ?_ _))).mono ?_; rintro e3 w3 ⟨A3, c3, rfl, hc3, hC3, hb3⟩) | (go_at_call 21; refine (HPL3.out A3 c3 _ (by repeat (first | assumption | refine bel_drew ?_ | refine bel_drewN ?_ _)) (Kd.C_below hC3 (by repeat (first | assumption | exact Below.refl _ _ | refine bel_drew ?_ | refine bel_drewN ?_ _))) hc3).mono ?_; rintro e5 w5 ⟨rfl, hb5⟩))
          try clear hHeld
          have z0 := HX.out w5 hb5
          have z1 := HX1.out w5 hb5
          by_cases hp0 : 0 ≤ p
          · have HBE := Lib.hid hb5
            go_wp2_with (fail)
            go_roundw
            case rel => exact ⟨n + 1, by go_num, Lib.hid ⟨by omega, HBE.out⟩⟩
            case measure => simp [intOf]; omega
          · have hmem := HNF.out n d HD.out (by rw [HP.out]; omega)
            have HMEM := Lib.hid hmem
            obtain ⟨at_, hat⟩ : ∃ x, Gr.placeP o2 d.name = x := ⟨_, rfl⟩
            obtain ⟨st, hst⟩ : ∃ x, Gr.placeP t d.name = x := ⟨_, rfl⟩
            have hone := HSI.out d hmem
            rw [hat, hst] at hone
            have HONE := Lib.hid hone
            clear hone
            have HAT := Lib.hid hat
            have HST := Lib.hid hst
            clear hmem hat hst
            go_wp2_with (first
              | (go_at_call 21; with_reducible refine (HPO.out d.name w5 hb5 at_ HAT.out).mono ?_; rintro e6 w6 ⟨rfl, hb6⟩))
            clear z0 z1
            have HB6 := Lib.hid hb6
            go_loopw [9, 10] (fun v9 v10 wr => ∃ k : Nat, v10 = .int .i64 (k : Int) ∧ v9 = .bool (decide (0 ≤ at_) || (d.imps.take k).any (fun y => decide (0 ≤ Gr.placeP t y))) ∧ Hid (k ≤ d.imps.length ∧ Below w4.heap.size w4 wr)) (fun _ v10 _ => d.imps.length - (intOf v10).toNat)
            case atStart => exact ⟨0, rfl, by simp, Lib.hid ⟨Nat.zero_le _, HB6.out⟩⟩
            case round =>
              obtain ⟨k, rfl, hv9, HK⟩ := hrel
              obtain ⟨bb, hbb⟩ : ∃ bb, (decide (0 ≤ at_) || (d.imps.take k).any (fun y => decide (0 ≤ Gr.placeP t y))) = bb := ⟨_, rfl⟩
              rw [hbb] at hv9
              subst hv9
              have HBB := Lib.hid hbb
              clear hbb
              have hkl := HK.out.1
              have hil := (HOK.out d (List.mem_of_getElem? HD.out)).2.1
              unfold big at hil
              have z4 := HX1.out wr HK.out.2
              by_cases hk : k < d.imps.length
              · obtain ⟨y, hy⟩ : ∃ y, d.imps[k]? = some y := ⟨_, List.getElem?_eq_getElem hk⟩
                obtain ⟨adx, hAx, x5⟩ := row_c HR.out.2 hy
                have hAx1 : A1 = some adx := hAx
                have x6 := cell_later HK.out.2 x5
                obtain ⟨mp, hmp⟩ : ∃ x, Gr.placeP t y = x := ⟨_, rfl⟩
                have HMP := Lib.hid hmp
                have HSTEP : Hid ((decide (0 ≤ at_) || (d.imps.take (k + 1)).any (fun y => decide (0 ≤ Gr.placeP t y))) = (bb || decide (0 ≤ mp))) := Lib.hid (by rw [take_at hy, List.any_append, ← HBB.out, ← hmp]; simp [Bool.or_assoc])
                have HCALL := Lib.hid (HPT.out y wr HK.out.2 mp HMP.out)
                have k1 : (k : Int) < (d.imps.length : Int) := by omega
                have k0 : (0 : Int) ≤ (k : Int) := by omega
                have HBK := Lib.hid HK.out.2
                clear hy x5 hmp hAx
                rw [hAx1] at z4
                cases bb with
                | true =>
                  go_wp2_with (fail)
                  go_roundw
                  case rel => exact ⟨k + 1, by go_num, by rw [HSTEP.out]; rfl, Lib.hid ⟨by omega, HBK.out⟩⟩
                  case measure => simp [intOf]; omega
                | false =>
                  go_wp2_with (first
                    | (go_at_call 21; with_reducible refine HCALL.out.mono ?_; rintro e8 w8 ⟨rfl, hb8⟩))
                  have HB8 := Lib.hid hb8
                  go_roundw
                  case rel => exact ⟨k + 1, by go_num, by rw [HSTEP.out]; rfl, Lib.hid ⟨by omega, HB8.out⟩⟩
                  case measure => simp [intOf]; omega
              · obtain rfl : k = d.imps.length := by omega
                have hb1 := HBB.out
                rw [List.take_length, HONE.out] at hb1
                have HST2 := Lib.hid (HPT.out d.name wr HK.out.2 st HST.out)
                have z5 := HX.out wr HK.out.2
                by_cases hst0 : 0 ≤ st
                · rw [decide_eq_true hst0] at hb1
                  subst hb1
                  go_wp2_with (first
                    | (go_at_call 21; with_reducible refine HST2.out.mono ?_; rintro e8 w8 ⟨rfl, hb8⟩))
                  have HB8 := Lib.hid hb8
                  go_roundw
                  case rel => exact ⟨n + 1, by go_num, Lib.hid ⟨lt_len HD.out, HB8.out⟩⟩
                  case measure => have := lt_len HD.out; simp [intOf]; omega
                · rw [decide_eq_false hst0] at hb1
                  subst hb1
                  go_wp2_with (first
                    | (go_at_call 21; with_reducible refine HST2.out.mono ?_; rintro e8 w8 ⟨rfl, hb8⟩))
                  have HB8 := Lib.hid hb8
                  go_roundw
                  case rel => exact ⟨n + 1, by go_num, Lib.hid ⟨lt_len HD.out, HB8.out⟩⟩
                  case measure => have := lt_len HD.out; simp [intOf]; omega
        · obtain rfl : n = g.length := by omega
          have HB8 := HI.out.2
          go_wp2_with (fail)
          go_ret
          exact ⟨rfl, HB2.out.trans (HB8.mono HB2.out.size)⟩
end Go.Proofs.Ytpdilplgdbcjpaa
