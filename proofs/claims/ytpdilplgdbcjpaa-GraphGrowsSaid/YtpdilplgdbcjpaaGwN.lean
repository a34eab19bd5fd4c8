/- GraphSteps: the walk. -/
import Derived.Test.YtpdilplgdbcjpaaGwM
namespace Go.Proofs.Ytpdilplgdbcjpaa
open Go.RowKit Go.Maps Go.WideMaps PRef Go.Proofs.YtpdilplgdbcjpaaW.PrintWords Go.Shelf
set_option linter.unusedVariables false

theorem row_c {w : World} {A : Option Addr} {L : List Str} (hC : Kd.string.C w A (L.map ba).length (L.map ba)) {k : Nat} {x : Str} (hx : L[k]? = some x) : ∃ ad, A = some ad ∧ w.cell? (ad.add k) = some (.string (ba x)) := by
  obtain ⟨ad, hA, x0⟩ := Kd.at_string hC (k : Int) (by omega) (by have := lt_len hx; rw [List.length_map]; omega)
  rw [rdS hx, Int.toNat_natCast] at x0
  exact ⟨ad, hA, x0⟩
theorem take_C {w : World} {A : Option Addr} {L : List Str} (hC : Kd.string.C w A (L.map ba).length (L.map ba)) {k : Nat} (hk : k ≤ L.length) : Kd.string.C w A ((L.take k).map ba).length ((L.take k).map ba) := by
  have h := Kd.C_take hC (m := k) (by rw [List.length_map]; exact hk)
  rw [← List.map_take] at h
  exact h
set_option maxRecDepth 100000 in
set_option maxHeartbeats 4000000 in
theorem graphSteps_any (A : Option Addr) (l : List S36) (c : Nat) (w : World) (hc : l.length ≤ c) (hs : ∀ x ∈ l, NdW x) (hC : Kd.C k36 w A l.length l) :
    Calls Try.prog 8 #[.slice A l.length c] w fun e w' => e = .returned (.bool true) ∧ Below w.heap.size w w' := by
  have hl0 : (l.map toNd).length = l.length := List.length_map _
  have HFW : Hid (∀ W, Below w.heap.size w W → Calls Try.prog 11 #[.slice A l.length c] W fun e w' => ∃ A2 c2, e = .returned (.slice A2 (fewP (l.map toNd)).length c2) ∧ (fewP (l.map toNd)).length ≤ c2 ∧ Kd.C k36 w' A2 ((fewP (l.map toNd)).map ofNd).length ((fewP (l.map toNd)).map ofNd) ∧ Below w.heap.size w w') := Lib.hid fun W hW => by
    have h := few_any (l.map toNd) A c W (by rw [map_of_to]; exact Kd.C_below hC hW) (by rw [hl0]; exact hc)
    rw [hl0] at h
    exact h.mono fun e w' h => by obtain ⟨A2, c2, h1, h2, h3, h4⟩ := h; exact ⟨A2, c2, h1, h2, h3, bel_trans hW h4⟩
  have HOK := Lib.hid (fewP_ok (nodes_arg hs))
  have HLN := Lib.hid (fewP_len (l.map toNd))
  clear hc hs hC hl0
  generalize fewP (l.map toNd) = g at *
  have hg : g.length ≤ 60 := HLN.out
  have HNS : Hid (∀ x ∈ Gr.orderP (Gr.nodes g), x.length ≤ maxLen) := Lib.hid fun x hx => by
    obtain ⟨d, hd, rfl⟩ := List.mem_map.1 ((Gr.order_good (Gr.nodes g)).sub x hx)
    exact (HOK.out d (Gr.nodes_mem hd)).1
  have HLO := Lib.hid (Nat.le_trans (order_len (Gr.nodes g)) (Nat.le_trans (nodes_len g) hg))
  have HO := Lib.hid (fun (A2 : Option Addr) (c2 : Nat) (w2 W : World) h1 h2 hb => gorder_c g A2 c2 w2 W h1 h2 (by omega) HOK.out hb)
  have HE := Lib.hid (Gr.order_end (Gr.nodes g))
  have HST := Lib.hid (Gr.order_step (Gr.nodes g))
  have HQ : Hid (∀ (A2 : Option Addr) (c2 : Nat) (w2 W : World) h1 h2 (hb : Below w2.heap.size w2 W) (D : List Str) (B : Option Addr) (d : Nat) h3 h4 h5 h6, _) := Lib.hid (fun (A2 : Option Addr) (c2 : Nat) (w2 W : World) h1 h2 (hb : Below w2.heap.size w2 W) (D : List Str) (B : Option Addr) (d : Nat) h3 h4 h5 h6 => rowR_c (greq_any g A2 c2 D B d w2 W h1 hb h2 (by unfold big; omega) HOK.out h3 h4 h5 h6) hb)
  generalize Gr.nodes g = gn at *
  generalize Gr.orderP gn = o at *
  go_enter Try.func8, Try.ntmps8
  go_wp2_with (first
    | (go_at_call 10; refine (awake_any w).mono ?_; rintro e1 w1 ⟨rfl, hb1⟩)
    | (go_at_call 11; refine (HFW.out _ hb1).mono ?_; rintro e2 w2 ⟨A2, c2, rfl, hc2, hC2, hb2⟩)
    | (go_at_call 12; with_reducible refine (HO.out A2 c2 w2 w2 hC2 hc2 (Below.refl _ _)).mono ?_; rintro e4 w4 ⟨Aa, ca, Ab, cb, rfl, la, Ca, lb, Cb, hb4, hb4'⟩))
  have HC2 := Lib.hid hC2
  have HB2 := Lib.hid hb2
  have HB4 := Lib.hid hb4
  have HCa := Lib.hid Ca
  have hol : o.length ≤ 60 := HLO.out
  have hB4 := Below.refl w4.heap.size w4
  clear hC2 hb2 hb4 hb4' Ca Cb hb1 HFW HO
  go_loopw [6] (fun v6 wr => ∃ i : Nat, v6 = .int .i64 (i : Int) ∧ Hid (i ≤ o.length ∧ Below w4.heap.size w4 wr)) (fun v6 _ => o.length - (intOf v6).toNat)
  case atStart => exact ⟨0, rfl, Lib.hid ⟨Nat.zero_le _, hB4⟩⟩
  case round =>
    obtain ⟨i, rfl, HI⟩ := hrel
    have hil := HI.out.1
    have j1 : (i : Int) ≤ (o.length : Int) := by omega
    have q8 := str_cut (A := Aa) la i hil
    have htl : (o.take i).length = i := by rw [List.length_take]; omega
    have hcall := HQ.out A2 c2 w2 wr HC2.out hc2 (HB4.out.trans (HI.out.2.mono HB4.out.size)) (o.take i) Aa ca (Kd.C_below (take_C HCa.out hil) HI.out.2) (by omega) (by unfold big; omega) (fun x hx => HNS.out x (List.mem_of_mem_take hx))
    rw [htl] at hcall
    have HCALL := Lib.hid hcall
    clear hcall htl
    by_cases hi : i = o.length
    · subst hi
      rw [List.take_length, HE.out] at HCALL
      go_wp2_with (first
        | (go_at_call 17; with_reducible refine HCALL.out.mono ?_; rintro e5 w5 ⟨Ac, cc, rfl, lc, Cc, hb5, hb5'⟩))
      go_ret
      exact ⟨rfl, HB2.out.trans (hb5.mono HB2.out.size)⟩
    · obtain ⟨x, hx⟩ : ∃ x, o[i]? = some x := ⟨_, List.getElem?_eq_getElem (by omega)⟩
      obtain ⟨r, hr⟩ := HST.out i x hx
      rw [hr] at HCALL
      obtain ⟨ad, hA, x0⟩ := row_c HCa.out hx
      subst hA
      have HX := Lib.hid (cell_later HI.out.2 x0)
      have hne : ¬ (i : Int) = (o.length : Int) := by omega
      have j2 : (i : Int) < (o.length : Int) := by omega
      have hi2 : i < o.length := by omega
      clear x0
      obtain ⟨q, hq⟩ : ∃ q, q = (x :: r).length := ⟨_, rfl⟩
      have q2 : 0 < q := by rw [hq, List.length_cons]; omega
      have q1 : (0 : Int) < (q : Int) := by omega
      have q3 : ¬ (q : Int) = 0 := by omega
      have q4 : ((q : Int) == 0) = false := by simp; omega
      go_wp2_with (first
        | (go_at_call 17; with_reducible refine HCALL.out.mono ?_; rintro e5 w5 ⟨Ac, cc, rfl, lc, Cc, hb5, hb5'⟩; obtain ⟨ad5, hA5, y0⟩ := row_c (k := 0) Cc rfl; subst hA5; have y1 := cell_later hb5' HX.out; rw [← hq]))
      have y2 := y0
      rw [Addr.add_zero'] at y2
      have HB5 := Lib.hid hb5
      have HBI := Lib.hid (HI.out.2.trans (hb5'.mono HI.out.2.size))
      clear hb5 hb5' hq
      go_wp2_with (fail)
      go_quiet (fail)
      go_wp2_with (fail)
      go_roundw
      case rel => exact ⟨i + 1, by go_num, Lib.hid ⟨by omega, bel_drewN HBI.out _⟩⟩
      case measure => simp [intOf]; omega
end Go.Proofs.Ytpdilplgdbcjpaa
