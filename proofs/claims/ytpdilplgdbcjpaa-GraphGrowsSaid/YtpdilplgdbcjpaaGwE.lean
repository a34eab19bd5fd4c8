/- The walks of graph.Ready, graph.Users, graph.Order. -/
import Derived.Test.YtpdilplgdbcjpaaGwD
import Derived.Test.YtpdilplgdbcjpaaGwQ
namespace Go.Proofs.Ytpdilplgdbcjpaa
open Go.RowKit Go.Maps Go.WideMaps PRef Go.Proofs.YtpdilplgdbcjpaaW.PrintWords Go.Shelf
set_option linter.unusedVariables false

theorem index_l0 (L : List GStr) (s : GStr) (hL : L.length ≤ big) : ∀ (d i : Nat), i + d = L.length → Ev (fun k => slices_Index_string_string.l0 k (L.map ba) (ba s) (((L.map ba).length : Nat) : Int) (i : Int)) (Gr.placeF s (L.drop i) i)
  | 0, i, h => by
    rw [List.drop_eq_nil_of_le (by omega), Gr.placeF]
    exact Ev.step (f := fun _ => some (-1)) (fun k => by rw [slices_Index_string_string.l0, if_neg (by simp; omega)]) (Ev.now _)
  | d + 1, i, h => by
    obtain ⟨x, hx⟩ := get_of h
    have hi := lt_len hx
    rw [drop_at hx, Gr.placeF]
    by_cases e : x = s
    · rw [if_pos e]
      exact Ev.step (f := fun _ => some (i : Int)) (fun k => by rw [slices_Index_string_string.l0, if_pos (by simp; omega), if_pos (by omega), if_pos (by simp; omega), rdS hx, ba_tl, ba_tl, if_pos e.symm]) (Ev.now _)
    · rw [if_neg e]
      exact Ev.step (f := fun k => slices_Index_string_string.l0 k (L.map ba) (ba s) (((L.map ba).length : Nat) : Int) ((i + 1 : Nat) : Int)) (fun k => by rw [slices_Index_string_string.l0, if_pos (by simp; omega), if_pos (by omega), if_pos (by simp; omega), rdS hx, ba_tl, ba_tl, if_neg (Ne.symm e), wr1 (by unfold big at hL; omega)]) (index_l0 L s hL d (i + 1) (by omega))
theorem contains_f (L : List GStr) (s : GStr) (hL : L.length ≤ big) : Ev (fun k => slices_Contains_string_string.f k (L.map ba) (ba s)) (decide (s ∈ L)) := by
  have e : decide (s ∈ L) = decide (Gr.placeP L s ≥ 0) := by
    rw [Bool.eq_iff_iff, decide_eq_true_iff, decide_eq_true_iff]
    exact Gr.place_mem.symm
  rw [e]
  exact Ev.bind (index_l0 L s hL L.length 0 (by omega)) (Ev.now _)
theorem contains_any (L : List Str) (s : Str) (A : Option Addr) (c : Nat) (w : World) (hC : Kd.string.C w A (L.map ba).length (L.map ba)) (hc : L.length ≤ c) (hL : L.length ≤ big) :
    Calls Try.prog 30 #[.slice A L.length c, .string (ba s)] w fun e w' => e = .returned (.bool (decide (s ∈ L))) ∧ Drawn0 w w' := by
  obtain ⟨k, hk⟩ := (contains_f L s hL).rounds
  have := slices_Contains_string_string.calls k A c (L.map ba) (ba s) _ w hC (by rw [List.length_map]; exact hc) hk
  rw [List.length_map] at this
  exact this
theorem drawn_bel {w w' : World} (h : Drawn0 w w') : Below w.heap.size w w' := by
  obtain ⟨n, rfl⟩ := h.out
  exact bel_drewN (Below.refl _ _) n

/-- Ready's own set behind k names. -/
structure RqI (w : World) (D : List Str) (k : Nat) (W : World) : Prop where
  kl : k ≤ D.length
  set : SMap Try.prog 9 W w.heap.size k (mapF (D.take k) tt)
  bel : Below w.heap.size w W
theorem RqI.put {w : World} {D : List Str} {k : Nat} {W W' : World} (h : RqI w D k W) {x : Str} (hx : D[k]? = some x) (hm : SMap Try.prog 9 W' w.heap.size (k + 1) (fun y => if y = (ba x).data.toList then some (.bool true) else mapF (D.take k) tt y)) (hg : W.grownBy W' (some w.heap.size)) : RqI w D (k + 1) W' := by
  refine ⟨lt_len hx, ?_, h.bel.grown hg h.bel.size (fun j hj => by injection hj with hj; omega)⟩
  rw [ba_toList, setF_put] at hm
  rw [mapF_set (T := D.take (k + 1)) (fun y => by rw [take_at hx]; simp [or_comm])] at hm
  exact hm

set_option maxRecDepth 100000 in
set_option maxHeartbeats 4000000 in
theorem greq_any (l : List Gr.Nd) (A : Option Addr) (c : Nat) (D : List Str) (A2 : Option Addr) (c2 : Nat) (w0 w : World) (hC : Kd.C k36 w0 A (l.map ofNd).length (l.map ofNd)) (hbw : Below w0.heap.size w0 w) (hc : l.length ≤ c) (hl : l.length ≤ big) (hok : ∀ d ∈ l, NdOk d)
    (hD : Kd.string.C w A2 (D.map ba).length (D.map ba)) (hc2 : D.length ≤ c2) (hDl : D.length ≤ big) (hDs : ∀ x ∈ D, x.length ≤ maxLen) :
    Calls Try.prog 17 #[.slice A l.length c, .slice A2 D.length c2] w fun e w' => ∃ v, e = .returned v ∧ w'.ownsRow w.heap.size 9 1 v (Gr.readyL (Gr.nodes l) D).length ((Gr.readyL (Gr.nodes l) D).map encStr) ∧ Below w.heap.size w w' := by
  have HD := Lib.hid hD
  have HDS := Lib.hid hDs
  have HI0 : Hid (RqI w D 0 (w.alloc (.map #[] 0))) := Lib.hid ⟨Nat.zero_le _, by
    have h0 := SMap.made (P := Try.prog) (k := 9) w
    rw [mapF_nil tt] at h0
    simpa using h0, bel_alloc (Below.refl _ _) _⟩
  have HIM : Hid (∀ W, Below w.heap.size w W → Calls Try.prog 23 #[.slice A l.length c] W fun e w' => e = .returned (.map (some W.heap.size)) ∧ GM w' W.heap.size (Gr.nodes l) ∧ Below W.heap.size W w') :=
    Lib.hid fun W hW => imports_any l A c w0 W hC (bel_trans hbw hW) hc hl hok
  have HNL := Lib.hid (Nat.le_trans (nodes_len l) hl)
  have hmm := @run_makeMap Try.prog
  have hdl : D.length ≤ 9223372036854775807 := by unfold big at hDl; omega
  have HDL := Lib.hid hDl
  clear hD hDs hC hbw hc hl hok hDl
  go_enter Try.func17, Try.ntmps17
  go_wp2_with (fail)
  go_loopw [11] (fun v11 wr => ∃ k : Nat, v11 = .int .i64 k ∧ Hid (RqI w D k wr)) (fun v11 _ => D.length - (intOf v11).toNat)
  case atStart => exact ⟨0, rfl, HI0⟩
  case round =>
    obtain ⟨k, rfl, HI⟩ := hrel
    have hk := HI.out.kl
    by_cases hlt : k < D.length
    · obtain ⟨x, hx⟩ : ∃ x, D[k]? = some x := ⟨_, List.getElem?_eq_getElem hlt⟩
      obtain ⟨ad, hA, x0⟩ := Kd.at_string HD.out (k : Int) (by omega) (by rw [List.length_map]; omega)
      rw [rdS hx, Int.toNat_natCast] at x0
      replace x0 := cell_later HI.out.bel x0
      have HX := Lib.hid hx
      have hxn := ba_size (HDS.out x (List.mem_of_getElem? hx))
      have i1 : (k : Int) < D.length := by omega
      have hkm : k < maxLen := by unfold maxLen; omega
      clear hx
      rw [hA]
      go_wp2_with (first
        | (at_mapUpdate; refine wpList_put_smap rfl _ _ _ 41 rfl 9 4 Try.underlying9 Try.underlying41 w.heap.size k _ rfl HI.out.set hkm (ba x) hxn (.bool true) rfl rfl ?_; intro w5 hm5 hg5; go_frame)
        | go_in)
      have HE := Lib.hid (HI.out.put HX.out hm5 hg5)
      clear hm5 hg5
      go_roundw
      case rel => exact ⟨k + 1, by go_num, HE⟩
      case measure => have := lt_len HX.out; simp [intOf]; omega
    · obtain rfl : k = D.length := by omega
      have HS := Lib.hid HI.out.set
      rw [List.take_length] at HS
      have hwsz := HI.out.bel.size
      go_wp2_with (first
        | (go_at_call 23; refine (HIM.out _ HI.out.bel).mono ?_; rintro e1 w1 ⟨rfl, hG1, hb1⟩)
        | (go_at_call 24; refine (ready_any (Gr.nodes l) D _ _ _ _ hG1 (HS.out.later hb1) HNL.out).mono ?_; rintro e2 w2 ⟨v, rfl, hv, hb2⟩))
      go_ret
      have hs1 := hb1.size
      exact ⟨v, rfl, ownsRow_base_a hv (by omega), (HI.out.bel.trans (hb1.mono (by omega))).trans (hb2.mono (by omega))⟩

/-- Users' two sets behind k nodes. -/
structure UsI (w : World) (l : List Gr.Nd) (n : Str) (k : Nat) (W : World) : Prop where
  kl : k ≤ l.length
  seen : SMap Try.prog 9 W w.heap.size k (mapF (Gr.names (l.take k)) tt)
  out : SMap Try.prog 9 W (w.heap.size + 1) k (mapF (((Gr.nodes (l.take k)).filter (fun d => decide (n ∈ d.imps))).map (·.name)) tt)
  bel : Below w.heap.size w W
/-- node k is asked for: is it new, and does it import n? -/
def usIs (l : List Gr.Nd) (n : Str) (k : Nat) (d : Gr.Nd) : Bool := decide (d.name ∉ Gr.names (l.take k)) && decide (n ∈ d.imps)
structure UsJ (w : World) (l : List Gr.Nd) (n : Str) (k : Nat) (W : World) : Prop where
  kl : k < l.length
  seen : SMap Try.prog 9 W w.heap.size k (mapF (Gr.names (l.take k)) tt)
  out : SMap Try.prog 9 W (w.heap.size + 1) (k + 1) (mapF (((Gr.nodes (l.take (k + 1))).filter (fun d => decide (n ∈ d.imps))).map (·.name)) tt)
  bel : Below w.heap.size w W
theorem UsI.new {w : World} {l : List Gr.Nd} {n : Str} {k : Nat} {W W' : World} (h : UsI w l n k W) (hb : Below W.heap.size W W') : UsI w l n k W' := ⟨h.kl, h.seen.later hb, h.out.later hb, h.bel.trans (hb.mono h.bel.size)⟩
theorem UsI.pass {w : World} {l : List Gr.Nd} {n : Str} {k : Nat} {W : World} (h : UsI w l n k W) {d : Gr.Nd} (hd : l[k]? = some d) (hn : usIs l n k d = false) : UsJ w l n k W := by
  refine ⟨lt_len hd, h.seen, ?_, h.bel⟩
  have e : ((Gr.nodes (l.take (k + 1))).filter (fun d => decide (n ∈ d.imps))) = ((Gr.nodes (l.take k)).filter (fun d => decide (n ∈ d.imps))) := by
    rw [nodes_take hd]
    split
    · rfl
    · rename_i hm
      rw [Gr.mem_names_nodes] at hm
      unfold usIs at hn
      rw [decide_eq_true hm, Bool.true_and, decide_eq_false_iff_not] at hn
      rw [List.filter_append]
      simp [hn]
  rw [e]
  exact h.out.mono (by omega)
theorem UsI.put {w : World} {l : List Gr.Nd} {n : Str} {k : Nat} {W W' : World} (h : UsI w l n k W) {d : Gr.Nd} (hd : l[k]? = some d) (hn : usIs l n k d = true)
    (hm : SMap Try.prog 9 W' (w.heap.size + 1) (k + 1) (fun y => if y = (ba d.name).data.toList then some (.bool true) else mapF (((Gr.nodes (l.take k)).filter (fun d => decide (n ∈ d.imps))).map (·.name)) tt y)) (hg : W.grownBy W' (some (w.heap.size + 1))) : UsJ w l n k W' := by
  have hne : w.heap.size ≠ w.heap.size + 1 := by omega
  refine ⟨lt_len hd, h.seen.kept hg (by intro e; injection e with e; omega), ?_, h.bel.grown hg h.bel.size (fun j hj => by injection hj with hj; omega)⟩
  unfold usIs at hn
  rw [Bool.and_eq_true, decide_eq_true_iff, decide_eq_true_iff] at hn
  rw [ba_toList, setF_put] at hm
  rw [nodes_take hd, if_neg (by rw [Gr.mem_names_nodes]; exact hn.1), List.filter_append]
  rw [mapF_set (T := (((Gr.nodes (l.take k)).filter (fun d => decide (n ∈ d.imps)) ++ [d].filter (fun d => decide (n ∈ d.imps))).map (·.name))) (fun y => by simp [hn.2, or_comm])] at hm
  exact hm
theorem UsJ.end {w : World} {l : List Gr.Nd} {n : Str} {k : Nat} {W W' : World} (h : UsJ w l n k W) {d : Gr.Nd} (hd : l[k]? = some d)
    (hm : SMap Try.prog 9 W' w.heap.size (k + 1) (fun y => if y = (ba d.name).data.toList then some (.bool true) else mapF (Gr.names (l.take k)) tt y)) (hg : W.grownBy W' (some w.heap.size)) : UsI w l n (k + 1) W' := by
  refine ⟨h.kl, ?_, h.out.kept hg (by intro e; injection e with e; omega), h.bel.grown hg h.bel.size (fun j hj => by injection hj with hj; omega)⟩
  rw [ba_toList, setF_put] at hm
  rw [mapF_set (T := Gr.names (l.take (k + 1))) (fun y => by rw [take_at hd]; simp [Gr.names, or_comm])] at hm
  exact hm
theorem blk_kept {W W5 : World} {G b : Nat} {o : Obj} (h : W.heap[G]? = some o) (hg : W.grownBy W5 (some b)) (hb : G ≠ b) : W5.heap[G]? = some o := (hg.block G (blk_lt h) (by intro e; injection e with e; omega)).trans h

set_option maxRecDepth 100000 in
set_option maxHeartbeats 4000000 in
theorem gusers_any (l : List Gr.Nd) (A : Option Addr) (c : Nat) (n : Str) (w0 w : World) (hC : Kd.C k36 w0 A (l.map ofNd).length (l.map ofNd)) (hbw : Below w0.heap.size w0 w) (hc : l.length ≤ c) (hl : l.length ≤ big) (hok : ∀ d ∈ l, NdOk d) :
    Calls Try.prog 19 #[.slice A l.length c, .string (ba n)] w fun e w' => ∃ v, e = .returned v ∧ w'.ownsRow w.heap.size 9 1 v (Gr.usersP (Gr.nodes l) n).length ((Gr.usersP (Gr.nodes l) n).map encStr) ∧ Below w.heap.size w w' := by
  have hC := Kd.C_below hC hbw
  have HC := Lib.hid hC
  have HL := Lib.hid hl
  have HOK := Lib.hid hok
  have hlm : l.length ≤ 9223372036854775807 := by unfold big at hl; omega
  have hmm := @run_makeMap Try.prog
  have HI0 : Hid (UsI w l n 0 ((w.alloc (.map #[] 0)).alloc (.map #[] 0))) := Lib.hid ⟨Nat.zero_le _, by
    have h0 := (SMap.made (P := Try.prog) (k := 9) w).alloc (.map #[] 0)
    rw [mapF_nil tt] at h0
    simpa [Gr.names] using h0, by
    have h0 := SMap.made (P := Try.prog) (k := 9) (w.alloc (.map #[] 0))
    rw [mapF_nil tt, World.size_alloc] at h0
    simpa [Gr.nodes, Gr.nodesF] using h0, bel_alloc (bel_alloc (Below.refl _ _) _) _⟩
  clear hC hbw hl hok
  go_enter Try.func19, Try.ntmps19
  go_wp2_with (fail)
  go_loopw [13] (fun v13 wr => ∃ k : Nat, v13 = .int .i64 k ∧ Hid (UsI w l n k wr)) (fun v13 _ => l.length - (intOf v13).toNat)
  case atStart => exact ⟨0, rfl, HI0⟩
  case round =>
    obtain ⟨k, rfl, HI⟩ := hrel
    have hk := HI.out.kl
    by_cases hlt : k < l.length
    · obtain ⟨d, hd⟩ : ∃ d, l[k]? = some d := ⟨_, List.getElem?_eq_getElem hlt⟩
      obtain ⟨ad, A1, c1, hA, x0, x1, hr⟩ := C_node HC.out hd
      subst hA
      replace x0 := cell_later HI.out.bel x0
      replace x1 := cell_later HI.out.bel x1
      have HD := Lib.hid hd
      have HR := Lib.hid hr
      have HNok := Lib.hid (HOK.out d (List.mem_of_getElem? hd))
      have hdn := ba_size HNok.out.1
      have i1 : (k : Int) < l.length := by omega
      have hg := HI.out.out.lt
      have hkm : k < maxLen := by unfold maxLen; omega
      clear hd hr
      have HB1 := Lib.hid (HI.out.new (bel_alloc (Below.refl _ _) (.cells #[.string (ba d.name), .slice A1 d.imps.length c1] 36)))
      have HG1 := Lib.hid (blk_new wr (.cells #[.string (ba d.name), .slice A1 d.imps.length c1] 36))
      by_cases hs : d.name ∈ Gr.names (l.take k)
      · have hlk := set_look (b := true) (decide_eq_true hs)
        have HE := Lib.hid (HB1.out.pass HD.out (by simp [usIs, hs]))
        go_wp2_with (first
          | (at_lookup; refine wpList_look_smap rfl _ _ 41 rfl 9 4 Try.underlying9 Try.underlying41 w.heap.size _ _ rfl HB1.out.seen (zero_bool _) (ba d.name) hdn (.bool true) rfl hlk ?_)
          | (at_mapUpdate; refine wpList_put_smap rfl _ _ _ 41 rfl 9 4 Try.underlying9 Try.underlying41 w.heap.size k _ rfl HE.out.seen hkm (ba d.name) hdn (.bool true) rfl rfl ?_; intro w5 hm5 hg5; go_frame)
          | go_in)
        have HF := Lib.hid (HE.out.end HD.out hm5 hg5)
        clear hm5 hg5
        go_roundw
        case rel => exact ⟨k + 1, by go_num, HF⟩
        case measure => have := lt_len HD.out; simp [intOf]; omega
      · have hlk := set_look (b := false) (decide_eq_false hs)
        have HCT := Lib.hid (contains_any d.imps n A1 c1 (wr.alloc (.cells #[.string (ba d.name), .slice A1 d.imps.length c1] 36)) (Kd.C_below HR.out.2 HB1.out.bel) HR.out.1 HNok.out.2.1)
        go_wp2_with (first
          | (at_lookup; refine wpList_look_smap rfl _ _ 41 rfl 9 4 Try.underlying9 Try.underlying41 w.heap.size _ _ rfl HB1.out.seen (zero_bool _) (ba d.name) hdn (.bool false) rfl hlk ?_))
        refine HCT.out.mono ?_
        rintro e1 w1 ⟨rfl, hd1⟩
        have HB2 := Lib.hid (HB1.out.new (drawn_bel hd1))
        have HG2 := Lib.hid (blk_later (drawn_bel hd1) HG1.out)
        have c0 := (blk_cell HG2.out 0).trans rfl
        clear hd1 HCT
        have hgne : wr.heap.size ≠ w.heap.size + 1 := by omega
        by_cases hi : n ∈ d.imps
        · rw [decide_eq_true hi]
          go_wp2_with (first
            | (at_mapUpdate; refine wpList_put_smap rfl _ _ _ 41 rfl 9 4 Try.underlying9 Try.underlying41 (w.heap.size + 1) k _ rfl HB2.out.out hkm (ba d.name) hdn (.bool true) rfl rfl ?_; intro w5 hm5 hg5; have c5 := (blk_cell (blk_kept HG2.out hg5 hgne) 0).trans rfl)
            | (at_mapUpdate; refine wpList_put_smap rfl _ _ _ 41 rfl 9 4 Try.underlying9 Try.underlying41 w.heap.size k _ rfl (HB2.out.put HD.out (by simp [usIs, hs, hi]) hm5 hg5).seen hkm (ba d.name) hdn (.bool true) rfl rfl ?_; intro w6 hm6 hg6; go_frame)
            | go_in)
          have HF := Lib.hid ((HB2.out.put HD.out (by simp [usIs, hs, hi]) hm5 hg5).end HD.out hm6 hg6)
          clear hm5 hg5 hm6 hg6
          go_roundw
          case rel => exact ⟨k + 1, by go_num, HF⟩
          case measure => have := lt_len HD.out; simp [intOf]; omega
        · rw [decide_eq_false hi]
          have HE := Lib.hid (HB2.out.pass HD.out (by simp [usIs, hi]))
          go_wp2_with (first
            | (at_mapUpdate; refine wpList_put_smap rfl _ _ _ 41 rfl 9 4 Try.underlying9 Try.underlying41 w.heap.size k _ rfl HE.out.seen hkm (ba d.name) hdn (.bool true) rfl rfl ?_; intro w6 hm6 hg6; go_frame)
            | go_in)
          have HF := Lib.hid (HE.out.end HD.out hm6 hg6)
          clear hm6 hg6
          go_roundw
          case rel => exact ⟨k + 1, by go_num, HF⟩
          case measure => have := lt_len HD.out; simp [intOf]; omega
    · obtain rfl : k = l.length := by omega
      have HO := Lib.hid HI.out.out
      rw [List.take_length] at HO
      have hkm : l.length ≤ 4398046511104 := by have := HL.out; unfold big at this; omega
      go_wp2_with (go_at_call 25; refine (rising_any _ _ _ _ HO.out hkm).mono ?_; rintro e w' ⟨v, rfl, hv, hb⟩)
      go_ret
      exact ⟨v, rfl, ownsRow_base_a hv HI.out.bel.size, HI.out.bel.trans (hb.mono HI.out.bel.size)⟩
end Go.Proofs.Ytpdilplgdbcjpaa
