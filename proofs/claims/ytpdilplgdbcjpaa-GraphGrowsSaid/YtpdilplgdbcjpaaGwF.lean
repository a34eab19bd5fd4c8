/- The walk of graph.Order. -/
import Derived.Test.YtpdilplgdbcjpaaGwE
namespace Go.Proofs.Ytpdilplgdbcjpaa
open Go.RowKit Go.Maps Go.WideMaps PRef Go.Proofs.YtpdilplgdbcjpaaW.PrintWords Go.Shelf
set_option linter.unusedVariables false

/-- A set is filled by a range over all names: behind ss those of them are in it for which p holds; the set lies at o, the range at o + 1. -/
structure CoI (w : World) (o : Nat) (g : List Gr.Nd) (p : Str → Bool) (B : Nat) (gB : Str → Value) (ss : List Str) (W : World) : Prop where
  rg : SRange Try.prog 9 W B (o + 1) g.length (mapF (Gr.names g) gB) ss
  out : SMap Try.prog 9 W o ss.length (mapF (ss.filter p) tt)
  bel : Below w.heap.size w W
/-- The range has stepped on: x has come; fewer than M are left. -/
structure CoS (w : World) (o : Nat) (g : List Gr.Nd) (p : Str → Bool) (B : Nat) (gB : Str → Value) (ss : List Str) (x : Str) (M : Nat) (W : World) : Prop where
  rg : SRange Try.prog 9 W B (o + 1) g.length (mapF (Gr.names g) gB) (ss ++ [x])
  out : SMap Try.prog 9 W o ss.length (mapF (ss.filter p) tt)
  bel : Below w.heap.size w W
  lf : W.rangeLeft B (o + 1) < M
section
variable {w : World} {o : Nat} {g : List Gr.Nd} {p : Str → Bool} {B : Nat} {gB : Str → Value} {ss : List Str} {x : Str} {M : Nat} {W W' : World}
theorem CoI.step (h : CoI w o g p B gB ss W) (ho : w.heap.size ≤ o) (hr : SRange Try.prog 9 W' B (o + 1) g.length (mapF (Gr.names g) gB) (ss ++ [x])) (hg : W.grownBy W' (some (o + 1))) (hl : W'.rangeLeft B (o + 1) < M) : CoS w o g p B gB ss x M W' :=
  ⟨hr, h.out.kept hg (by intro e; injection e with e; omega), h.bel.grown hg h.bel.size (fun k hk => by injection hk with hk; omega), hl⟩
theorem CoS.later (h : CoS w o g p B gB ss x M W) (hb : Below W.heap.size W W') : CoS w o g p B gB ss x M W' :=
  ⟨h.rg.later hb, h.out.later hb, h.bel.trans (hb.mono h.bel.size), by
    have e : W'.rangeLeft B (o + 1) = W.rangeLeft B (o + 1) := by simp only [World.rangeLeft, hb.block B h.rg.map.lt, hb.block (o + 1) h.rg.lt]
    rw [e]; exact h.lf⟩
theorem CoS.not (h : CoS w o g p B gB ss x M W) (hx : p x = false) : CoI w o g p B gB (ss ++ [x]) W :=
  ⟨h.rg, by rw [show (ss ++ [x]).filter p = ss.filter p by simp [hx]]; exact h.out.mono (by rw [List.length_append]; omega), h.bel⟩
theorem CoS.put (h : CoS w o g p B gB ss x M W) (ho : w.heap.size ≤ o) (hB : B < o) (hx : p x = true)
    (hm : SMap Try.prog 9 W' o (ss.length + 1) (fun y => if y = (ba x).data.toList then some (.bool true) else mapF (ss.filter p) tt y)) (hg : W.grownBy W' (some o)) : CoI w o g p B gB (ss ++ [x]) W' ∧ W'.rangeLeft B (o + 1) < M := by
  refine ⟨⟨h.rg.kept hg (by intro e; injection e with e; omega) (by intro e; injection e with e; omega), ?_, h.bel.grown hg h.bel.size (fun k hk => by injection hk with hk; omega)⟩, by rw [left_kept hg h.rg.map.lt h.rg.lt (by intro e; injection e with e; omega) (by intro e; injection e with e; omega)]; exact h.lf⟩
  rw [ba_toList, setF_put] at hm
  rw [mapF_set (T := (ss ++ [x]).filter p) (fun y => by rw [List.filter_append]; simp [hx, or_comm])] at hm
  rw [List.length_append, List.length_singleton]
  exact hm
end

/-- Order's loop: o: the order so far (row v2), next: who is ready (row v6), the set of those that are done at w1's end. -/
structure OrI (w1 : World) (g : List Gr.Nd) (o : List Str) (v2 v6 : Value) (W : World) : Prop where
  good : Gr.Good g o
  row : W.ownsRow w1.heap.size 9 1 v2 o.length (o.map encStr)
  nxt : W.ownsRow w1.heap.size 9 1 v6 (Gr.readyL g o).length ((Gr.readyL g o).map encStr)
  dn : SMap Try.prog 9 W w1.heap.size o.length (mapF o tt)
  sep : ∀ k, v6.ownBlock = some k → v2.ownBlock ≠ some k
  res : ∃ k, Gr.orderF g k o = Gr.orderP g ∧ g.length ≤ o.length + k
  bel : Below w1.heap.size w1 W
theorem row_first {W : World} {base : Nat} {v : Value} {x : Str} {r : List Str} (h : W.ownsRow base 9 1 v (x :: r).length ((x :: r).map encStr)) :
    ∃ gb cap, v = .slice (some ⟨gb, 0, none⟩) (x :: r).length cap ∧ W.cell? ⟨gb, 0, none⟩ = some (.string (ba x)) ∧ gb < W.heap.size := by
  rcases h.2 with ⟨_, h0⟩ | ⟨gb, cap, cur, rfl, hb, hh, _⟩
  · simp at h0
  · refine ⟨gb, cap, rfl, ?_, blk_lt hh⟩
    rw [h.cellAt 0 (by simp)]
    rfl
theorem OrI.next {w1 : World} {g : List Gr.Nd} {o : List Str} {v2 v6 v2' v6' : Value} {W W2 W3 W4 : World} (h : OrI w1 g o v2 v6 W) {x : Str} {r : List Str} (hr : Gr.readyL g o = x :: r)
    (h1 : W2.ownsRow w1.heap.size 9 1 v2' (o.length + 1) (o.map encStr ++ [.string (ba x)])) (g1 : W.grownBy W2 v2.ownBlock)
    (h2 : SMap Try.prog 9 W3 w1.heap.size (o.length + 1) (fun y => if y = (ba x).data.toList then some (.bool true) else mapF o tt y)) (g2 : W2.grownBy W3 (some w1.heap.size))
    (h3 : W4.ownsRow W3.heap.size 9 1 v6' (Gr.readyL g (o ++ [x])).length ((Gr.readyL g (o ++ [x])).map encStr)) (hb : Below W3.heap.size W3 W4) : OrI w1 g (o ++ [x]) v2' v6' W4 := by
  have hx : x ∈ Gr.readyL g o := by rw [hr]; exact List.mem_cons_self
  have hdlt := h.dn.lt
  have hs1 := h.bel.size
  have hs2 := g1.size
  have hs3 := g2.size
  have hdn2 : SMap Try.prog 9 W2 w1.heap.size o.length (mapF o tt) := h.dn.kept g1 (smap_row (W' := W) h.dn h.row)
  have hrow3 : W3.ownsRow w1.heap.size 9 1 v2' (o.length + 1) (o.map encStr ++ [.string (ba x)]) := own_kept h1 fun b hb' => g2.block b (h1.lt b hb').2 (fun e => smap_row (W' := W) hdn2 h1 (by rw [hb', ← e]))
  have hset : SMap Try.prog 9 W3 w1.heap.size (o ++ [x]).length (mapF (o ++ [x]) tt) := by
    rw [ba_toList, setF_put] at h2
    rw [mapF_set (T := o ++ [x]) (fun y => by simp [or_comm])] at h2
    rw [List.length_append, List.length_singleton]
    exact h2
  refine ⟨h.good.snoc hx, ?_, ownsRow_base_a h3 (by omega), hset.later hb, fun k hk hk2 => ?_, ?_, ((h.bel.grown g1 h.bel.size (own_base h.row)).grown g2 (by omega) (fun k hk => by injection hk with hk; omega)).trans (hb.mono (by omega))⟩
  · rw [List.length_append, List.length_singleton, List.map_append]
    exact own_later hrow3 hb
  · have a1 := own_base h3 k hk
    have a2 := (hrow3.lt k hk2).2
    omega
  · obtain ⟨k, hk1, hk2⟩ := h.res
    have hlen := (h.good.snoc hx).len
    rw [List.length_append, List.length_singleton] at hlen
    obtain ⟨k, rfl⟩ : ∃ m, k = m + 1 := ⟨k - 1, by omega⟩
    refine ⟨k, ?_, by rw [List.length_append, List.length_singleton]; omega⟩
    rw [← hk1, Gr.orderF, hr]

theorem or_bel {w1 : World} {g : List Gr.Nd} {o : List Str} {v2 v6 : Value} {W W5 W6 : World} {bx : Obj} (h : OrI w1 g o v2 v6 W) (g5 : (W.alloc bx).grownBy W5 v2.ownBlock) (g6 : W5.grownBy W6 (some w1.heap.size)) : Below w1.heap.size w1 W6 := by
  have h1 := (World.grownBy_alloc W bx v2.ownBlock).andThen g5 (fun j hj => .inr hj)
  have h2 := h.bel.grown h1 h.bel.size (own_base h.row)
  exact h2.grown g6 h2.size (fun k hk => by injection hk with hk; omega)
theorem or_set {W : World} {b n : Nat} {o : List Str} {x : Str} (h : SMap Try.prog 9 W b n (fun y => if y = (ba x).data.toList then some (.bool true) else mapF o tt y)) : SMap Try.prog 9 W b n (mapF (o ++ [x]) tt) := by
  rw [ba_toList, setF_put] at h
  rw [mapF_set (T := o ++ [x]) (fun y => by simp [or_comm])] at h
  exact h
set_option maxRecDepth 100000 in
set_option maxHeartbeats 4000000 in
theorem gorder_any (l : List Gr.Nd) (A : Option Addr) (c : Nat) (w0 w : World) (hC : Kd.C k36 w0 A (l.map ofNd).length (l.map ofNd)) (hbw : Below w0.heap.size w0 w) (hc : l.length ≤ c) (hl : l.length ≤ big) (hok : ∀ d ∈ l, NdOk d) :
    Calls Try.prog 12 #[.slice A l.length c] w fun e w' => ∃ v1 v2, e = .returned (.tuple #[v1, v2]) ∧ w'.ownsRow w.heap.size 9 1 v1 (Gr.orderP (Gr.nodes l)).length ((Gr.orderP (Gr.nodes l)).map encStr) ∧
      w'.ownsRow w.heap.size 9 1 v2 (Gr.stuckP (Gr.nodes l)).length ((Gr.stuckP (Gr.nodes l)).map encStr) ∧ Below w.heap.size w w' := by
  obtain ⟨i0, hi, hz0, hz1, hz2⟩ := info_parts info9
  have HIM := Lib.hid (imports_any l A c w0 w hC hbw hc hl hok)
  have HNL := Lib.hid (Nat.le_trans (nodes_len l) hl)
  have HOK : Hid (∀ x ∈ Gr.names (Gr.nodes l), x.length ≤ maxLen) := Lib.hid (fun x hx => by
    obtain ⟨d, hd, rfl⟩ := List.mem_map.1 hx
    exact (hok d (Gr.nodes_mem hd)).1)
  have HND := Lib.hid (Gr.nodes_nodup l)
  have hmm := @run_makeMap Try.prog
  clear hC hbw hc hl hok
  generalize Gr.nodes l = g at *
  go_enter Try.func12, Try.ntmps12
  go_wp2_with (first
    | (go_at_call 23; refine HIM.out.mono ?_; rintro e1 w1 ⟨rfl, hG1, hb1⟩)
    | (go_at_call 24; refine (ready_any g [] _ w1.heap.size 0 _ (hG1.later (bel_alloc (Below.refl _ _) _)) (by have h0 := SMap.made (P := Try.prog) (k := 9) w1; rw [mapF_nil tt] at h0; exact h0) HNL.out).mono ?_; rintro e2 w2 ⟨v6, rfl, hv, hb2⟩))
  have hw1 := World.size_alloc w1 (.map #[] 0)
  have hBlt : w.heap.size < w1.heap.size := by
    obtain ⟨blk, L, hA, hL⟩ := hG1.out
    exact hA.lt
  have HG := Lib.hid hG1
  have HB1 := Lib.hid hb1
  have HI0 : Hid (OrI w1 g [] (.slice none 0 0) v6 w2) := Lib.hid ⟨Gr.Good.nil g, World.ownsRow_nil _ _ _ _, ownsRow_base_a hv (by omega), by
    have h0 := SMap.made (P := Try.prog) (k := 9) w1
    rw [mapF_nil tt] at h0
    exact h0.later hb2, by simp [Value.ownBlock], ⟨g.length, rfl, by simp⟩, (bel_alloc (Below.refl _ _) _).trans (hb2.mono (by omega))⟩
  clear hG1 hb1 hv hb2 HIM hw1
  go_loopw [2, 6] (fun v2 v6 wr => ∃ o, Hid (OrI w1 g o v2 v6 wr)) (fun v2 _ _ => g.length - (match v2 with | .slice _ n _ => n | _ => 0))
  case atStart => exact ⟨[], HI0⟩
  case round =>
    obtain ⟨o, HI⟩ := hrel
    cases hr : Gr.readyL g o with
    | cons x r =>
      have hx : x ∈ Gr.readyL g o := by rw [hr]; exact List.mem_cons_self
      have hxl := HOK.out x (Gr.mem_readyL.1 hx).1
      have hlen := (HI.out.good.snoc hx).len
      rw [List.length_append, List.length_singleton] at hlen
      have hnl := HNL.out
      unfold big at hnl
      have hnx := HI.out.nxt
      rw [hr] at hnx
      obtain ⟨gb, cap, hv6, c0, hlt⟩ := row_first hnx
      have hsep := HI.out.sep
      obtain ⟨A2, c2, hv2, hc2⟩ := own_slice HI.out.row
      subst hv6
      subst hv2
      have hgb : (Value.slice A2 o.length c2).ownBlock ≠ some gb := hsep gb rfl
      have hw1lt := HI.out.bel.size
      have HLEN := Lib.hid hlen
      have HR := Lib.hid hr
      have hxn := ba_size hxl
      have hrl : (0 : Int) < ((x :: r).length : Nat) := by rw [List.length_cons]; omega
      have hrn : 0 < (x :: r).length := by rw [List.length_cons]; omega
      have hom : o.length < maxLen := by unfold maxLen; omega
      have hob : o.length < 1099511627776 := by omega
      clear hnx hx hsep hlen hr
      generalize (x :: r).length = n6 at hrl hrn HI ⊢
      go_wp2_with (first
        | (at_builtin; refine wpList_append_own _ rfl _ _ 25 rfl w1.heap.size 9 i0 (.string ⟨#[]⟩) 1 16 Try.underlying25 hi hz0 hz1 hz2 rfl (by decide) (.slice A2 o.length c2) o.length (o.map encStr) rfl (HI.out.row.alloc _) ⟨wr.heap.size, 0, none⟩ 1 1 [.string (ba x)] rfl rfl (one_news _ _ _) (by simp [Value.oneCell']) (by unfold maxLen; omega) (by omega) (by simp; omega) ?_; intro v2' w5 hown5 hg5 hnil5; have c5 := (World.cell?_of_block (hg5.block gb (by simp; omega) (fun e => hgb e.symm))).trans (cell_later (bel_alloc (Below.refl _ _) _) c0))
        | (at_mapUpdate; refine wpList_put_smap rfl _ _ _ 41 rfl 9 4 Try.underlying9 Try.underlying41 w1.heap.size o.length _ rfl (HI.out.dn.kept ((World.grownBy_alloc wr _ _).andThen hg5 (fun j hj => .inr hj)) (smap_row (W' := wr) HI.out.dn HI.out.row)) hom (ba x) hxn (.bool true) rfl rfl ?_; intro w6 hm6 hg6)
        | (go_at_call 24; refine (ready_any g (o ++ [x]) _ w1.heap.size (o.length + 1) _ (HG.out.later (or_bel HI.out hg5 hg6)) (or_set hm6) HNL.out).mono ?_; rintro e7 w7 ⟨v7, rfl, hv7, hb7⟩)
        | go_in)
      have HE := HI.out.next HR.out hown5 ((World.grownBy_alloc wr _ _).andThen hg5 (fun j hj => .inr hj)) hm6 hg6 hv7 hb7
      obtain ⟨A5, c5', hv5, hc5⟩ := own_slice hown5
      subst hv5
      have HEE := Lib.hid HE
      clear hown5 hg5 hnil5 hm6 hg6 hv7 hb7 HE
      go_roundw
      case rel => exact ⟨_, HEE⟩
      case measure => have := HLEN.out; simp only; omega
    | nil =>
      obtain ⟨wo, rfl⟩ : ∃ wo, wo = wr := ⟨_, rfl⟩
      have hoo : o = Gr.orderP g := by
        obtain ⟨k, hk, _⟩ := HI.out.res
        rw [Gr.orderF_done hr] at hk
        exact hk
      have hnx := HI.out.nxt
      rw [hr] at hnx
      obtain ⟨A6, c6, hv6, _⟩ := own_slice hnx
      rw [List.length_nil] at hv6
      subst hv6
      have HROW := Lib.hid HI.out.row
      have HDN := Lib.hid HI.out.dn
      have HBE := Lib.hid HI.out.bel
      have hG3 := HG.out.later HI.out.bel
      obtain ⟨blk, L, hA, hL⟩ := hG3.out
      have HA := Lib.hid hA
      have hBo : w.heap.size < wo.heap.size := hA.lt
      have hWo : (wo.alloc (.map #[] 0)).heap.size = wo.heap.size + 1 := World.size_alloc _ _
      have HOO := Lib.hid hoo
      clear hnx hr HI hG3 hA hL hoo
      go_wp2_with (first
        | (at_range; refine wpList_range_smap rfl _ 38 rfl 9 41 Try.underlying9 Try.underlying38 w.heap.size _ _ rfl (HA.out.alloc _) ?_; intro w3 hr3 hg3 hs3; go_frame)
        | go_in)
      rw [hWo]
      rw [hWo] at hr3
      have HC0 : Hid (CoI wo wo.heap.size g (fun n => decide (n ∉ o)) w.heap.size (fun x => .map (some (blk x))) [] w3) := Lib.hid ⟨hr3, by
        have h0 := (SMap.made (P := Try.prog) (k := 9) wo).kept hg3 (by simp)
        rw [mapF_nil tt] at h0
        exact h0, grown_new hg3 (bel_alloc (Below.refl _ _) _) (by omega)⟩
      clear hr3 hg3 hs3
      go_loopw [8] (fun _ wr => ∃ ss, Hid (CoI wo wo.heap.size g (fun n => decide (n ∉ o)) w.heap.size (fun x => .map (some (blk x))) ss wr)) (fun _ wr => wr.rangeLeft w.heap.size (wo.heap.size + 1))
      case atStart => exact ⟨[], HC0⟩
      case round =>
        obtain ⟨ss, HR⟩ := hrel
        go_wp2_with (first
          | (at_next; refine wpList_next_smap rfl _ rfl 9 Try.underlying9 w.heap.size (wo.heap.size + 1) _ _ _ _ rfl HR.out.rg ?_ ?_)
          | go_in)
        · intro hall
          have hlen := HR.out.rg.len
          rw [names_len] at hlen
          have hn6 : ss.length ≤ 4398046511104 := by have := HNL.out; unfold big at this; omega
          go_wp2_with (go_at_call 25; refine (rising_any _ _ _ _ HR.out.out hn6).mono ?_; rintro e w' ⟨v, rfl, hv, hb⟩)
          have he : Gr.canon (ss.filter (fun n => decide (n ∉ o))) = Gr.stuckP g := Gr.canon_eq (fun y => by rw [List.mem_filter, List.mem_filter, hall y, HOO.out])
          rw [he] at hv
          have hs1 := HR.out.bel.size
          have hs2 := HB1.out.size
          have hs3 := HBE.out.size
          have hbw' : Below w1.heap.size w1 w' := (HBE.out.trans (HR.out.bel.mono hs3)).trans (hb.mono (by omega))
          have hrow' := own_later (own_later HROW.out HR.out.bel) hb
          rw [HOO.out] at hrow'
          go_ret2
          exact ⟨_, v, rfl, ownsRow_base_a hrow' hs2, ownsRow_base_a hv (by omega), HB1.out.trans (hbw'.mono hs2)⟩
        · intro x w4 hxS hxss hxl hrg4 hlt hg4 hs4 hen
          clear hs4
          obtain ⟨M, HM⟩ : ∃ M, Hid (wr.rangeLeft w.heap.size (wo.heap.size + 1) = M) := ⟨_, Lib.hid rfl⟩
          have HS := Lib.hid (HR.out.step (M := M) (Nat.le_refl _) hrg4 hg4 (by rw [← HM.out]; exact hlt))
          have hxb := ba_size hxl
          have hlen := HS.out.rg.len
          rw [names_len, List.length_append, List.length_singleton] at hlen
          have hssm : ss.length < maxLen := by have := HNL.out; unfold big at this; unfold maxLen; omega
          clear hrg4 hlt hg4 HR hxl hxS hxss
          by_cases hd : x ∈ o
          · have hd1 := set_look (b := true) (decide_eq_true hd)
            go_wp2_with (first
              | (at_lookup; refine wpList_look_smap rfl _ _ 41 rfl 9 4 Try.underlying9 Try.underlying41 w1.heap.size _ (mapF o tt) rfl (HDN.out.later HS.out.bel) (zero_bool _) (ba x) hxb (.bool true) rfl hd1 ?_)
              | go_in)
            have HE := Lib.hid (HS.out.not (by simp [hd]))
            go_roundw
            case rel => exact ⟨_, HE⟩
            case measure => rw [HM.out]; exact HS.out.lf
          · have hd1 := set_look (b := false) (decide_eq_false hd)
            go_wp2_with (first
              | (at_lookup; refine wpList_look_smap rfl _ _ 41 rfl 9 4 Try.underlying9 Try.underlying41 w1.heap.size _ (mapF o tt) rfl (HDN.out.later HS.out.bel) (zero_bool _) (ba x) hxb (.bool false) rfl hd1 ?_)
              | (at_mapUpdate; refine wpList_put_smap rfl _ _ _ 41 rfl 9 4 Try.underlying9 Try.underlying41 wo.heap.size ss.length _ rfl HS.out.out hssm (ba x) hxb (.bool true) rfl rfl ?_; intro w5 hm5 hg5; go_frame)
              | go_in)
            have HE := HS.out.put (Nat.le_refl _) hBo (by simp [hd]) hm5 hg5
            go_roundw
            case rel => exact ⟨_, Lib.hid HE.1⟩
            case measure => rw [HM.out]; exact HE.2
end Go.Proofs.Ytpdilplgdbcjpaa
