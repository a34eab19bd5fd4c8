/- GraphOrders and GraphReadies: the walks. -/
import Derived.Test.YtpdilplgdbcjpaaGwO
namespace Go.Proofs.Ytpdilplgdbcjpaa
open Go.RowKit Go.Maps Go.WideMaps PRef Go.Proofs.YtpdilplgdbcjpaaW.PrintWords Go.Shelf
set_option linter.unusedVariables false

/-- The program's and the document's answers on one list, at any later world. -/
theorem gorder_c (l : List Gr.Nd) (A : Option Addr) (c : Nat) (w W : World) (hC : Kd.C k36 w A (l.map ofNd).length (l.map ofNd)) (hc : l.length ≤ c) (hl : l.length ≤ 1048576) (hok : ∀ d ∈ l, NdOk d) (hb : Below w.heap.size w W) :
    Calls Try.prog 12 #[.slice A l.length c] W fun e w' => ∃ A1 c1 A2 c2, e = .returned (.tuple #[.slice A1 (Gr.orderP (Gr.nodes l)).length c1, .slice A2 (Gr.stuckP (Gr.nodes l)).length c2]) ∧ (Gr.orderP (Gr.nodes l)).length ≤ c1 ∧ Kd.string.C w' A1 ((Gr.orderP (Gr.nodes l)).map ba).length ((Gr.orderP (Gr.nodes l)).map ba) ∧
      (Gr.stuckP (Gr.nodes l)).length ≤ c2 ∧ Kd.string.C w' A2 ((Gr.stuckP (Gr.nodes l)).map ba).length ((Gr.stuckP (Gr.nodes l)).map ba) ∧ Below w.heap.size w w' ∧ Below W.heap.size W w' := by
  refine (gorder_any l A c w W hC hb hc (by unfold big; omega) hok).mono fun e w' h => ?_
  obtain ⟨v1, v2, rfl, h1, h2, h3⟩ := h
  obtain ⟨A1, c1, rfl, k1, k2⟩ := own_C h1
  obtain ⟨A2, c2, rfl, k3, k4⟩ := own_C h2
  exact ⟨A1, c1, A2, c2, rfl, k1, k2, k3, k4, bel_trans hb h3, h3⟩
theorem rorder_c (l : List Gr.Nd) (A : Option Addr) (c : Nat) (w W : World) (hC : Kd.C k36 w A (l.map ofNd).length (l.map ofNd)) (hc : l.length ≤ c) (hl : l.length ≤ 1048576) (hok : ∀ d ∈ l, NdOk d) (hb : Below w.heap.size w W) :
    Calls Try.prog 13 #[.slice A l.length c] W fun e w' => ∃ A1 c1 A2 c2, e = .returned (.tuple #[.slice A1 (Gr.orderP (Gr.nodes l)).length c1, .slice A2 (Gr.stuckP (Gr.nodes l)).length c2]) ∧ (Gr.orderP (Gr.nodes l)).length ≤ c1 ∧ Kd.string.C w' A1 ((Gr.orderP (Gr.nodes l)).map ba).length ((Gr.orderP (Gr.nodes l)).map ba) ∧
      (Gr.stuckP (Gr.nodes l)).length ≤ c2 ∧ Kd.string.C w' A2 ((Gr.stuckP (Gr.nodes l)).map ba).length ((Gr.stuckP (Gr.nodes l)).map ba) ∧ Below w.heap.size w w' ∧ Below W.heap.size W w' := by
  refine (rorder_any l A c W (Kd.C_below hC hb) hc (by unfold big; omega) hok).mono fun e w' h => ?_
  obtain ⟨v1, v2, rfl, h1, h2, h3⟩ := h
  obtain ⟨A1, c1, rfl, k1, k2⟩ := own_C h1
  obtain ⟨A2, c2, rfl, k3, k4⟩ := own_C h2
  exact ⟨A1, c1, A2, c2, rfl, k1, k2, k3, k4, bel_trans hb h3, h3⟩
/-- A row that is handed back reads as names. -/
theorem rowR_c {P : Program} {f : Nat} {args : Array Value} {w W : World} {l : List Str} (h : Calls P f args W fun e w' => ∃ v, e = .returned v ∧ w'.ownsRow W.heap.size 9 1 v l.length (l.map encStr) ∧ Below W.heap.size W w') (hb : Below w.heap.size w W) :
    Calls P f args W fun e w' => ∃ A1 c1, e = .returned (.slice A1 l.length c1) ∧ l.length ≤ c1 ∧ Kd.string.C w' A1 (l.map ba).length (l.map ba) ∧ Below w.heap.size w w' ∧ Below W.heap.size W w' := h.mono fun e w' h => by
  obtain ⟨v, rfl, h1, h3⟩ := h
  obtain ⟨A1, c1, rfl, k1, k2⟩ := own_C h1
  exact ⟨A1, c1, rfl, k1, k2, bel_trans hb h3, h3⟩
theorem order_len (g : List Gr.Nd) : (Gr.orderP g).length ≤ g.length := (Gr.order_good g).len
theorem stuck_len (g : List Gr.Nd) : (Gr.stuckP g).length ≤ g.length := canon_sub_len (fun x hx => (List.mem_filter.1 hx).1)
theorem cyc_len (g : List Gr.Nd) : (Gr.cycP g).length ≤ g.length := canon_sub_len (fun x hx => (List.mem_filter.1 hx).1)
theorem ready_len (g : List Gr.Nd) (D : List Str) : (Gr.readyL g D).length ≤ g.length := canon_sub_len (fun x hx => (List.mem_filter.1 hx).1)
theorem same_c (L : List Str) (A B : Option Addr) (c d : Nat) (w W : World) (hb : Below w.heap.size w W) (hC : Kd.string.C W A (L.map ba).length (L.map ba)) (hc : L.length ≤ c) (hD : Kd.string.C W B (L.map ba).length (L.map ba)) (hd : L.length ≤ d) (hL : L.length ≤ 1048576) :
    Calls Try.prog 14 #[.slice A L.length c, .slice B L.length d] W fun e w' => e = .returned (.bool true) ∧ Below w.heap.size w w' ∧ Below W.heap.size W w' := by
  refine (same_any L L A B c d W hC hc hD hd (by unfold big; omega)).mono fun e w' h => ⟨?_, bel_trans hb h.2, h.2⟩
  rw [h.1, decide_eq_true rfl]

set_option maxRecDepth 100000 in
set_option maxHeartbeats 4000000 in
theorem graphOrders_any (A : Option Addr) (l : List S36) (c : Nat) (w : World) (hc : l.length ≤ c) (hs : ∀ x ∈ l, NdW x) (hC : Kd.C k36 w A l.length l) :
    Calls Try.prog 3 #[.slice A l.length c] w fun e w' => e = .returned (.bool true) ∧ Below w.heap.size w w' := by
  have hl0 : (l.map toNd).length = l.length := List.length_map _
  have HFW : Hid (∀ W, Below w.heap.size w W → Calls Try.prog 11 #[.slice A l.length c] W fun e w' => ∃ A2 c2, e = .returned (.slice A2 (fewP (l.map toNd)).length c2) ∧ (fewP (l.map toNd)).length ≤ c2 ∧ Kd.C k36 w' A2 ((fewP (l.map toNd)).map ofNd).length ((fewP (l.map toNd)).map ofNd) ∧ Below w.heap.size w w') := Lib.hid fun W hW => by
    have h := few_any (l.map toNd) A c W (by rw [map_of_to]; exact Kd.C_below hC hW) (by rw [hl0]; exact hc)
    rw [hl0] at h
    exact h.mono fun e w' h => by obtain ⟨A2, c2, h1, h2, h3, h4⟩ := h; exact ⟨A2, c2, h1, h2, h3, bel_trans hW h4⟩
  have HOK := Lib.hid (fewP_ok (nodes_arg hs))
  have HLN := Lib.hid (fewP_len (l.map toNd))
  clear hc hs hC hl0
  generalize fewP (l.map toNd) = g at *
  have hg : g.length ≤ 1048576 := by have := HLN.out; omega
  have hng : (Gr.nodes g).length ≤ 1048576 := Nat.le_trans (nodes_len g) hg
  have HO := Lib.hid (fun (A2 : Option Addr) (c2 : Nat) (w2 W : World) h1 h2 hb => gorder_c g A2 c2 w2 W h1 h2 hg HOK.out hb)
  have HRO := Lib.hid (fun (A2 : Option Addr) (c2 : Nat) (w2 W : World) h1 h2 hb => rorder_c g A2 c2 w2 W h1 h2 hg HOK.out hb)
  have HCY := Lib.hid (fun (A2 : Option Addr) (c2 : Nat) (w2 W : World) h1 h2 (hb : Below w2.heap.size w2 W) => rowR_c (gcyclic_any g A2 c2 w2 W h1 hb h2 hg HOK.out) hb)
  have HRC := Lib.hid (fun (A2 : Option Addr) (c2 : Nat) (w2 W : World) h1 h2 (hb : Below w2.heap.size w2 W) => rowR_c (rcyclic_any g A2 c2 W (Kd.C_below h1 hb) h2 hg HOK.out) hb)
  have HLO := Lib.hid (Nat.le_trans (order_len (Gr.nodes g)) hng)
  have HLS := Lib.hid (Nat.le_trans (stuck_len (Gr.nodes g)) hng)
  have HLC := Lib.hid (Nat.le_trans (cyc_len (Gr.nodes g)) hng)
  generalize Gr.orderP (Gr.nodes g) = o at *
  generalize Gr.stuckP (Gr.nodes g) = t at *
  generalize Gr.cycP (Gr.nodes g) = y at *
  clear HLN hng
  go_enter Try.func3, Try.ntmps3
  go_wp2_with (first
    | (go_at_call 10; refine (awake_any w).mono ?_; rintro e1 w1 ⟨rfl, hb1⟩)
    | (go_at_call 11; refine (HFW.out _ hb1).mono ?_; rintro e2 w2 ⟨A2, c2, rfl, hc2, hC2, hb2⟩)
    | (go_at_call 12; refine (HO.out A2 c2 w2 w2 hC2 hc2 (Below.refl _ _)).mono ?_; rintro e3 w3 ⟨Aa, ca, Ab, cb, rfl, la, Ca, lb, Cb, hb3, hb3'⟩)
    | (go_at_call 13; refine (HRO.out A2 c2 w2 w3 hC2 hc2 hb3).mono ?_; rintro e4 w4 ⟨Ac, cc, Ad, cd, rfl, lc, Cc, ld, Cd, hb4, hb4'⟩)
    | (go_at_call 14; with_reducible refine (same_c o Aa Ac ca cc w2 w4 hb4 (Kd.C_below Ca hb4') la Cc lc HLO.out).mono ?_; rintro e5 w5 ⟨rfl, hb5, hb5'⟩)
    | (go_at_call 14; with_reducible refine (same_c t Ab Ad cb cd w2 w5 hb5 (Kd.C_below (Kd.C_below Cb hb4') hb5') lb (Kd.C_below Cd hb5') ld HLS.out).mono ?_; rintro e6 w6 ⟨rfl, hb6, hb6'⟩)
    | (go_at_call 15; refine (HCY.out A2 c2 w2 w6 hC2 hc2 hb6).mono ?_; rintro e7 w7 ⟨Ae, ce, rfl, le, Ce, hb7, hb7'⟩)
    | (go_at_call 16; refine (HRC.out A2 c2 w2 w7 hC2 hc2 hb7).mono ?_; rintro e8 w8 ⟨Af, cf, rfl, lf, Cf, hb8, hb8'⟩)
    | (go_at_call 14; with_reducible refine (same_c y Ae Af ce cf w2 w8 hb8 (Kd.C_below Ce hb8') le Cf lf HLC.out).mono ?_; rintro e9 w9 ⟨rfl, hb9, hb9'⟩))
  go_ret
  exact ⟨rfl, hb2.trans (hb9.mono hb2.size)⟩

set_option maxRecDepth 100000 in
set_option maxHeartbeats 4000000 in
theorem graphReadies_any (A : Option Addr) (l : List S36) (c : Nat) (B : Option Addr) (m : List ByteArray) (d : Nat) (s : ByteArray) (w : World) (hc : l.length ≤ c) (hs : ∀ x ∈ l, NdW x) (hC : Kd.C k36 w A l.length l) (hd : m.length ≤ d) (hm : ∀ x ∈ m, x.size ≤ 140737488351232) (hD : Kd.C Kd.string w B m.length m) (hn : s.size ≤ 140737488351232) :
    Calls Try.prog 4 #[.slice A l.length c, .slice B m.length d, .string s] w fun e w' => e = .returned (.bool true) ∧ Below w.heap.size w w' := by
  obtain ⟨j0, hj, hy0, hy1, hy2⟩ := info_parts info9
  have hl0 : (l.map toNd).length = l.length := List.length_map _
  have HFW : Hid (∀ W, Below w.heap.size w W → Calls Try.prog 11 #[.slice A l.length c] W fun e w' => ∃ A2 c2, e = .returned (.slice A2 (fewP (l.map toNd)).length c2) ∧ (fewP (l.map toNd)).length ≤ c2 ∧ Kd.C k36 w' A2 ((fewP (l.map toNd)).map ofNd).length ((fewP (l.map toNd)).map ofNd) ∧ Below w.heap.size w w') := Lib.hid fun W hW => by
    have h := few_any (l.map toNd) A c W (by rw [map_of_to]; exact Kd.C_below hC hW) (by rw [hl0]; exact hc)
    rw [hl0] at h
    exact h.mono fun e w' h => by obtain ⟨A2, c2, h1, h2, h3, h4⟩ := h; exact ⟨A2, c2, h1, h2, h3, bel_trans hW h4⟩
  have HOK := Lib.hid (fewP_ok (nodes_arg hs))
  have HLN := Lib.hid (fewP_len (l.map toNd))
  -- the names that are done, at most a hundred
  obtain ⟨M, hM⟩ : ∃ M : List Str, m = M.map ba := ⟨m.map (fun s => s.data.toList), (map_ba_of m).symm⟩
  obtain ⟨n, hn2⟩ : ∃ n : Str, s = ba n := ⟨s.data.toList, (ba_of s).symm⟩
  subst hM
  subst hn2
  have hMs : ∀ x ∈ M, x.length ≤ maxLen := fun x hx => by
    have h1 := hm (ba x) (List.mem_map.2 ⟨x, hx, rfl⟩)
    have h2 : (ba x).size = x.length := by show x.toArray.size = x.length; rw [List.size_toArray]
    unfold maxLen
    omega
  rw [List.length_map] at hd hD
  have HD : Hid (Kd.string.C w B ((M.take 100).map ba).length ((M.take 100).map ba) ∧ (M.take 100).length ≤ d ∧ (M.take 100).length ≤ big ∧ ∀ x ∈ M.take 100, x.length ≤ maxLen) := Lib.hid ⟨by
    have h := Kd.C_take (xs := M.map ba) (m := 100) (k := Kd.string) (w := w) (A := B)
    by_cases h100 : 100 ≤ M.length
    · have h2 := h (by rw [List.length_map]; exact hD) (by rw [List.length_map]; exact h100)
      rw [← List.map_take] at h2
      exact h2
    · rw [List.take_of_length_le (by omega), List.length_map]
      exact hD, by rw [List.length_take]; omega, by rw [List.length_take]; unfold big; omega, fun x hx => hMs x (List.mem_of_mem_take hx)⟩
  rw [List.length_map]
  have hml : M.length ≤ 9223372036854775807 := hD.2.1
  clear hc hs hC hl0 hD hm hMs hn
  generalize fewP (l.map toNd) = g at *
  have hg : g.length ≤ 1048576 := by have := HLN.out; omega
  have hng : (Gr.nodes g).length ≤ 1048576 := Nat.le_trans (nodes_len g) hg
  have hgb : g.length ≤ big := by unfold big; omega
  have HQ := Lib.hid (fun (A2 : Option Addr) (c2 : Nat) (w2 W : World) (hW : Below w.heap.size w W) h1 h2 (hb : Below w2.heap.size w2 W) => rowR_c (greq_any g A2 c2 (M.take 100) B d w2 W h1 hb h2 hgb HOK.out (Kd.C_below HD.out.1 hW) HD.out.2.1 HD.out.2.2.1 HD.out.2.2.2) hb)
  have HRQ := Lib.hid (fun (A2 : Option Addr) (c2 : Nat) (w2 W : World) (hW : Below w.heap.size w W) h1 h2 (hb : Below w2.heap.size w2 W) => rowR_c (rready_any g A2 c2 W (Kd.C_below h1 hb) h2 hgb HOK.out (M.take 100) B d (Kd.C_below HD.out.1 hW) HD.out.2.1 HD.out.2.2.1) hb)
  have HU := Lib.hid (fun (A2 : Option Addr) (c2 : Nat) (w2 W : World) h1 h2 (hb : Below w2.heap.size w2 W) => rowR_c (gusers_any g A2 c2 n w2 W h1 hb h2 hgb HOK.out) hb)
  have HRU := Lib.hid (fun (A2 : Option Addr) (c2 : Nat) (w2 W : World) h1 h2 (hb : Below w2.heap.size w2 W) => rowR_c (rusers_any g A2 c2 W (Kd.C_below h1 hb) h2 hgb HOK.out n) hb)
  have HRL := Lib.hid (Nat.le_trans (ready_len (Gr.nodes g) (M.take 100)) hng)
  have HUL := Lib.hid (Nat.le_trans (users_len (Gr.nodes g) n) hng)
  generalize Gr.readyL (Gr.nodes g) (M.take 100) = o at *
  generalize Gr.usersP (Gr.nodes g) n = t at *
  clear HLN hng HOK hgb HD
  by_cases h100 : 100 < M.length
  · have hlen : (M.take 100).length = 100 := by rw [List.length_take]; omega
    have q8 := cut_to (P := Try.prog) 25 9 .i64 Try.underlying25 hj B M.length d (100 : Int) (by omega) (by omega) hd
    rw [show (100 : Int).toNat = 100 from rfl] at q8
    have i8 : (100 : Int) < (M.length : Int) := by omega
    rw [hlen] at HQ HRQ
    clear hlen
    go_enter Try.func4, Try.ntmps4
    go_wp2_with (first
      | (go_at_call 10; refine (awake_any w).mono ?_; rintro e1 w1 ⟨rfl, hb1⟩)
      | (go_at_call 11; refine (HFW.out _ hb1).mono ?_; rintro e2 w2 ⟨A2, c2, rfl, hc2, hC2, hb2⟩)
      | (go_at_call 17; refine (HQ.out A2 c2 w2 w2 hb2 hC2 hc2 (Below.refl _ _)).mono ?_; rintro e3 w3 ⟨Aa, ca, rfl, la, Ca, hb3, hb3'⟩)
      | (go_at_call 18; refine (HRQ.out A2 c2 w2 w3 (hb2.trans (hb3.mono hb2.size)) hC2 hc2 hb3).mono ?_; rintro e4 w4 ⟨Ac, cc, rfl, lc, Cc, hb4, hb4'⟩)
      | (go_at_call 14; with_reducible refine (same_c o Aa Ac ca cc w2 w4 hb4 (Kd.C_below Ca hb4') la Cc lc HRL.out).mono ?_; rintro e5 w5 ⟨rfl, hb5, hb5'⟩)
      | (go_at_call 19; refine (HU.out A2 c2 w2 w5 hC2 hc2 hb5).mono ?_; rintro e7 w7 ⟨Ae, ce, rfl, le, Ce, hb7, hb7'⟩)
      | (go_at_call 20; refine (HRU.out A2 c2 w2 w7 hC2 hc2 hb7).mono ?_; rintro e8 w8 ⟨Af, cf, rfl, lf, Cf, hb8, hb8'⟩)
      | (go_at_call 14; with_reducible refine (same_c t Ae Af ce cf w2 w8 hb8 (Kd.C_below Ce hb8') le Cf lf HUL.out).mono ?_; rintro e9 w9 ⟨rfl, hb9, hb9'⟩))
    go_ret
    exact ⟨rfl, hb2.trans (hb9.mono hb2.size)⟩
  · have hlen : (M.take 100).length = M.length := by rw [List.length_take]; omega
    have i8 : ¬ (100 : Int) < (M.length : Int) := by omega
    rw [hlen] at HQ HRQ
    clear hlen
    go_enter Try.func4, Try.ntmps4
    go_wp2_with (first
      | (go_at_call 10; refine (awake_any w).mono ?_; rintro e1 w1 ⟨rfl, hb1⟩)
      | (go_at_call 11; refine (HFW.out _ hb1).mono ?_; rintro e2 w2 ⟨A2, c2, rfl, hc2, hC2, hb2⟩)
      | (go_at_call 17; refine (HQ.out A2 c2 w2 w2 hb2 hC2 hc2 (Below.refl _ _)).mono ?_; rintro e3 w3 ⟨Aa, ca, rfl, la, Ca, hb3, hb3'⟩)
      | (go_at_call 18; refine (HRQ.out A2 c2 w2 w3 (hb2.trans (hb3.mono hb2.size)) hC2 hc2 hb3).mono ?_; rintro e4 w4 ⟨Ac, cc, rfl, lc, Cc, hb4, hb4'⟩)
      | (go_at_call 14; with_reducible refine (same_c o Aa Ac ca cc w2 w4 hb4 (Kd.C_below Ca hb4') la Cc lc HRL.out).mono ?_; rintro e5 w5 ⟨rfl, hb5, hb5'⟩)
      | (go_at_call 19; refine (HU.out A2 c2 w2 w5 hC2 hc2 hb5).mono ?_; rintro e7 w7 ⟨Ae, ce, rfl, le, Ce, hb7, hb7'⟩)
      | (go_at_call 20; refine (HRU.out A2 c2 w2 w7 hC2 hc2 hb7).mono ?_; rintro e8 w8 ⟨Af, cf, rfl, lf, Cf, hb8, hb8'⟩)
      | (go_at_call 14; with_reducible refine (same_c t Ae Af ce cf w2 w8 hb8 (Kd.C_below Ce hb8') le Cf lf HUL.out).mono ?_; rintro e9 w9 ⟨rfl, hb9, hb9'⟩))
    go_ret
    exact ⟨rfl, hb2.trans (hb9.mono hb2.size)⟩
end Go.Proofs.Ytpdilplgdbcjpaa
