/- The walk of graph.Cyclic. -/
import Derived.Test.YtpdilplgdbcjpaaGwF
import Derived.Deep.AppendSrc
namespace Go.Proofs.Ytpdilplgdbcjpaa
open Go.RowKit Go.Maps Go.WideMaps PRef Go.Proofs.YtpdilplgdbcjpaaW.PrintWords Go.Shelf
set_option linter.unusedVariables false

/-- append(more, l...): a row of names behind another one. -/
theorem append_names {ops : Array Oper} {rest : List Oper} {o : Oper} {a : Act} {Q : Exit → Act → World → Prop} {W : World} (hgd : o.guard = none) (s x : Operand)
    (ho : o.op = .call { callee := .builtin .append, args := #[s, x], argTypes := #[25, 25] }) (base b2 gb n cap : Nat) (vx : Value) (xs ys : List Str) (hs : a.eval s = .slice (some ⟨gb, 0, none⟩) n cap) (hx : a.eval x = vx) (hn : n = xs.length)
    (hrow : W.ownsRow base 9 1 (.slice (some ⟨gb, 0, none⟩) n cap) n (xs.map encStr)) (hsrc : W.ownsRow b2 9 1 vx ys.length (ys.map encStr)) (hb : (xs.length + ys.length) * 16 ≤ 140737488355328) (hbase : base ≤ W.heap.size)
    (h : ∀ g' c' W', W'.ownsRow base 9 1 (.slice (some ⟨g', 0, none⟩) (xs ++ ys).length c') (xs ++ ys).length ((xs ++ ys).map encStr) → W.grownBy W' (some gb) → wpList Try.prog ops Q rest (a.put o.dst (.slice (some ⟨g', 0, none⟩) (xs ++ ys).length c')) W') :
    wpList Try.prog ops Q (o :: rest) a W := by
  subst hn
  obtain ⟨i0, hi, hz0, hz1, hz2⟩ := info_parts info9
  rcases hsrc.2 with ⟨hv, h0⟩ | ⟨g2, cap2, cur2, hv, hb2, hh2, hc2, hm2, hsz2, ht2⟩
  · obtain rfl : ys = [] := List.length_eq_zero_iff.1 h0
    refine wpList_plain hgd fun K hK => ?_
    have hcap : xs.length ≤ cap := by
      rcases hrow.2 with ⟨hh, _⟩ | ⟨g', cap', cur, hh, _, _, hc, _⟩
      · cases hh
      · cases hh; exact hc
    have hr := run_append_room_src (P := Try.prog) W 25 25 o.type 9 i0 Try.underlying25 hi gb 0 xs.length cap vx 0 [] (by rw [hv, hz1]; exact Src.ofNil W Try.underlying25 0) (by omega) (by simp) (by simp)
    unfold Oper.wp
    simp [execOp, ho, resolve, invoke, builtin, hs, hx, hr, Result.andThen]
    refine hK _ _ ?_
    have := h gb cap W (by rw [List.append_nil]; exact hrow) ⟨rfl, rfl, rfl, Nat.le_refl _, fun _ _ _ => rfl⟩
    rw [List.append_nil] at this
    exact this
  · subst hv
    refine wpList_append_own _ hgd s x 25 ho base 9 i0 (.string ⟨#[]⟩) 1 16 Try.underlying25 hi hz0 hz1 hz2 rfl (by decide) _ xs.length (xs.map encStr) hs hrow ⟨g2, 0, none⟩ ys.length cap2 (ys.map encStr) hx (by rw [List.length_map, Nat.mul_one]) (fun j u hj => by
      have := hsrc.cells (g := g2) rfl j u hj
      exact this) (fun u hu => by obtain ⟨y, _, rfl⟩ := List.mem_map.1 hu; rfl) (by unfold maxLen; omega) hb hbase ?_
    intro v' w' hown hg hnil
    rw [← List.map_append, ← List.length_append] at hown
    rcases hown.2 with ⟨hn, _⟩ | ⟨g', c', cur, hv', _⟩
    · have := (hnil.1 hn).1
      cases this
    · subst hv'
      exact h g' c' w' hown hg

/-- The search from n, between two rounds: the set of those seen at sn, the row of those still to see. -/
structure CyI (Wr : World) (g : List Gr.Nd) (n : Str) (kq : Nat) (seen more : List Str) (v7 : Value) (W : World) : Prop where
  sk : Gr.Seek g n seen more
  nd : seen.Nodup
  row : W.ownsRow Wr.heap.size 9 1 v7 more.length (more.map encStr)
  set : SMap Try.prog 9 W Wr.heap.size seen.length (mapF seen tt)
  ms : Gr.seekM g seen more = kq
  ml : kq ≤ 4398046511104
  bel : Below Wr.heap.size Wr W
theorem seek_app {g : List Gr.Nd} {n a : Str} {seen init : List Str} (h : Gr.Seek g n seen (init ++ [a])) : Gr.Seek g n seen (a :: init) := h.congr (fun x => Iff.rfl) (fun x => by simp [or_comm])
theorem row_last {W : World} {base : Nat} {v : Value} {init : List Str} {a : Str} (h : W.ownsRow base 9 1 v (init ++ [a]).length ((init ++ [a]).map encStr)) :
    ∃ gb cap, v = .slice (some ⟨gb, 0, none⟩) (init.length + 1) cap ∧ W.cell? ⟨gb, init.length, none⟩ = some (.string (ba a)) ∧ W.ownsRow base 9 1 (.slice (some ⟨gb, 0, none⟩) init.length cap) init.length (init.map encStr) ∧ init.length + 1 ≤ cap ∧ base ≤ gb := by
  rw [List.length_append, List.length_singleton, List.map_append] at h
  rcases h.2 with ⟨_, h0⟩ | ⟨gb, cap, cur, rfl, hb, hh, hc, _⟩
  · simp at h0
  · refine ⟨gb, cap, rfl, ?_, ownsRow_pop (last := [a].map encStr) (by simp) h, hc, hb⟩
    rw [h.cellAt init.length (by omega), List.getElem?_append_right (by simp)]
    simp [enc_ba]
theorem CyI.skip {Wr : World} {g : List Gr.Nd} {n : Str} {kq : Nat} {seen init : List Str} {a : Str} {v7 v7' : Value} {W : World} (h : CyI Wr g n kq seen (init ++ [a]) v7 W) (ha : a ∈ seen) (hr : W.ownsRow Wr.heap.size 9 1 v7' init.length (init.map encStr)) : CyI Wr g n (kq - 1) seen init v7' W := by
  have h1 := h.ms
  unfold Gr.seekM at h1
  rw [List.length_append, List.length_singleton] at h1
  have h2 := h.ml
  exact ⟨(seek_app h.sk).skip ha, h.nd, hr, h.set, by unfold Gr.seekM; omega, by omega, h.bel⟩
theorem CyI.pos {Wr : World} {g : List Gr.Nd} {n : Str} {kq : Nat} {seen init : List Str} {a : Str} {v7 : Value} {W : World} (h : CyI Wr g n kq seen (init ++ [a]) v7 W) : 0 < kq ∧ init.length + 1 ≤ kq := by
  have h1 := h.ms
  unfold Gr.seekM at h1
  rw [List.length_append, List.length_singleton] at h1
  omega
theorem CyI.see {Wr : World} {g : List Gr.Nd} {n : Str} {kq : Nat} {seen init : List Str} {a : Str} {v7 v7' : Value} {W W' : World} (h : CyI Wr g n kq seen (init ++ [a]) v7 W) (ha : a ∉ seen) {ys : List Str} (hys : ys = Gr.canon (Gr.impsOf g a))
    (hr : W'.ownsRow Wr.heap.size 9 1 v7' (init ++ ys).length ((init ++ ys).map encStr)) (hs : SMap Try.prog 9 W' Wr.heap.size (seen.length + 1) (mapF (a :: seen) tt)) (hb : Below Wr.heap.size Wr W') :
    Gr.seekM g (a :: seen) (init ++ ys) < kq ∧ CyI Wr g n (Gr.seekM g (a :: seen) (init ++ ys)) (a :: seen) (init ++ ys) v7' W' := by
  subst hys
  have hsk := seek_app h.sk
  have h1 := Gr.seekM_see (g := g) (seen := seen) (seen' := a :: seen) (more := init) (more' := init ++ Gr.canon (Gr.impsOf g a)) (a := a) (Gr.seek_room hsk h.nd ha) rfl (by rw [List.length_append]; have := Gr.imps_len g a; omega)
  have h2 : Gr.seekM g seen (a :: init) = kq := by rw [← h.ms]; unfold Gr.seekM; simp
  rw [h2] at h1
  have h3 := h.ml
  exact ⟨h1, hsk.see (fun x => by rw [List.mem_append, Gr.mem_canon]), List.nodup_cons.2 ⟨ha, h.nd⟩, hr, hs, rfl, by omega, hb⟩
noncomputable def cyB (g : List Gr.Nd) (n : Str) : Bool := open Classical in decide (Gr.Reach g n n)
theorem cyB_row (g : List Gr.Nd) : Gr.canon ((Gr.names g).filter (cyB g)) = Gr.cycP g := rfl
open Classical in
theorem CyI.stop {Wr : World} {g : List Gr.Nd} {n : Str} {kq : Nat} {seen : List Str} {v7 : Value} {W : World} (h : CyI Wr g n kq seen [] v7 W) : decide (n ∈ seen) = cyB g n := by
  unfold cyB
  have := h.sk.end n
  by_cases hn : n ∈ seen
  · rw [decide_eq_true hn, decide_eq_true (this.1 hn)]
  · rw [decide_eq_false hn, decide_eq_false (fun hr => hn (this.2 hr))]

theorem cy_bel {Wr : World} {g : List Gr.Nd} {n : Str} {kq : Nat} {seen more : List Str} {v7 : Value} {W W' : World} (h : CyI Wr g n kq seen more v7 W) (hg : W.grownBy W' (some Wr.heap.size)) : Below Wr.heap.size Wr W' :=
  h.bel.grown hg h.bel.size (fun k hk => by injection hk with hk; omega)
theorem cy_set {W6 W8 W9 : World} {b n gb : Nat} {seen : List Str} {a : Str} (hm : SMap Try.prog 9 W6 b n (fun y => if y = (ba a).data.toList then some (.bool true) else mapF seen tt y)) (hb : Below W6.heap.size W6 W8) {base : Nat} {n2 c2 : Nat} {xs : List Value}
    (hg : W8.grownBy W9 (some gb)) (hr : W8.ownsRow base 9 1 (.slice (some ⟨gb, 0, none⟩) n2 c2) n2 xs) : SMap Try.prog 9 W9 b n (mapF (a :: seen) tt) := by
  rw [ba_toList, setF_put] at hm
  exact (hm.later hb).kept hg (smap_row (W' := W8) (hm.later hb) hr)
set_option maxRecDepth 100000 in
set_option maxHeartbeats 4000000 in
theorem gcyclic_any (l : List Gr.Nd) (A : Option Addr) (c : Nat) (w0 w : World) (hC : Kd.C k36 w0 A (l.map ofNd).length (l.map ofNd)) (hbw : Below w0.heap.size w0 w) (hc : l.length ≤ c) (hl : l.length ≤ 1048576) (hok : ∀ d ∈ l, NdOk d) :
    Calls Try.prog 15 #[.slice A l.length c] w fun e w' => ∃ v, e = .returned v ∧ w'.ownsRow w.heap.size 9 1 v (Gr.cycP (Gr.nodes l)).length ((Gr.cycP (Gr.nodes l)).map encStr) ∧ Below w.heap.size w w' := by
  obtain ⟨i0, hi0, hz0, hz1, hz2⟩ := info_parts info9
  have HIM := Lib.hid (imports_any l A c w0 w hC hbw hc (by unfold big; omega) hok)
  have HNL := Lib.hid (Nat.le_trans (nodes_len l) hl)
  have HOK : Hid (∀ x ∈ Gr.names (Gr.nodes l), x.length ≤ maxLen) := Lib.hid (fun x hx => by
    obtain ⟨d, hd, rfl⟩ := List.mem_map.1 hx
    exact (hok d (Gr.nodes_mem hd)).1)
  have hmm := @run_makeMap Try.prog
  clear hC hbw hc hl hok
  generalize Gr.nodes l = g at *
  go_enter Try.func15, Try.ntmps15
  go_wp2_with (first
    | (go_at_call 23; refine HIM.out.mono ?_; rintro e1 w1 ⟨rfl, hG1, hb1⟩; obtain ⟨blk, L, hA, hL⟩ := hG1.out)
    | (at_range; refine wpList_range_smap rfl _ 38 rfl 9 41 Try.underlying9 Try.underlying38 w.heap.size _ _ rfl (hA.alloc _) ?_; intro w3 hr3 hg3 hs3; go_frame)
    | go_in)
  have hWo : (w1.alloc (.map #[] 0)).heap.size = w1.heap.size + 1 := World.size_alloc _ _
  rw [hWo]
  rw [hWo] at hr3
  have HG := Lib.hid hG1
  have HB1 := Lib.hid hb1
  have HA := Lib.hid hA
  have HL := Lib.hid hL
  have hBo : w.heap.size < w1.heap.size := hA.lt
  have HC0 : Hid (CoI w1 w1.heap.size g (cyB g) w.heap.size (fun x => .map (some (blk x))) [] w3) := Lib.hid ⟨hr3, by
    have h0 := (SMap.made (P := Try.prog) (k := 9) w1).kept hg3 (by simp)
    rw [mapF_nil tt] at h0
    exact h0, grown_new hg3 (bel_alloc (Below.refl _ _) _) (by omega)⟩
  clear hr3 hg3 hs3 hG1 hb1 hA hL HIM
  go_loopw [5] (fun _ wr => ∃ ss, Hid (CoI w1 w1.heap.size g (cyB g) w.heap.size (fun x => .map (some (blk x))) ss wr)) (fun _ wr => wr.rangeLeft w.heap.size (w1.heap.size + 1))
  case atStart => exact ⟨[], HC0⟩
  case round =>
    obtain ⟨ss, HR⟩ := hrel
    go_wp2_with (first
      | (at_next; refine wpList_next_smap rfl _ rfl 9 Try.underlying9 w.heap.size (w1.heap.size + 1) _ _ _ _ rfl HR.out.rg ?_ ?_)
      | go_in)
    · intro hall
      have hlen := HR.out.rg.len
      rw [names_len] at hlen
      have hn6 : ss.length ≤ 4398046511104 := by have := HNL.out; omega
      go_wp2_with (go_at_call 25; refine (rising_any _ _ _ _ HR.out.out hn6).mono ?_; rintro e w' ⟨v, rfl, hv, hb⟩)
      have he : Gr.canon (ss.filter (cyB g)) = Gr.cycP g := by
        rw [← cyB_row]
        exact Gr.canon_eq (fun y => by rw [List.mem_filter, List.mem_filter, hall y])
      rw [he] at hv
      have hs1 := HR.out.bel.size
      have hs2 := HB1.out.size
      go_ret
      exact ⟨v, rfl, ownsRow_base_a hv (by omega), HB1.out.trans ((HR.out.bel.trans (hb.mono hs1)).mono hs2)⟩
    · intro x w4 hxS hxss hxl hrg4 hlt hg4 hs4 hen
      clear hs4
      obtain ⟨M, HM⟩ : ∃ M, Hid (wr.rangeLeft w.heap.size (w1.heap.size + 1) = M) := ⟨_, Lib.hid rfl⟩
      have HS := Lib.hid (HR.out.step (M := M) (Nat.le_refl _) hrg4 hg4 (by rw [← HM.out]; exact hlt))
      have hxb := ba_size hxl
      have hlen := HS.out.rg.len
      rw [names_len, List.length_append, List.length_singleton] at hlen
      have hssm : ss.length < maxLen := by have := HNL.out; unfold maxLen; omega
      have hlk := map_in (g := fun x => .map (some (blk x))) (.map none) hxS
      have HX := Lib.hid hxS
      clear hrg4 hlt hg4 HR hxl hxS hxss
      go_wp2_with (first
        | (at_lookup; refine wpList_look_smap rfl _ _ 38 rfl 9 41 Try.underlying9 Try.underlying38 w.heap.size _ _ rfl ((HA.out.later HS.out.bel).alloc _) (zero_names _) (ba x) hxb (.map (some (blk x))) rfl hlk ?_)
        | (go_at_call 25; refine (rising_any _ _ _ _ (((HL.out x HX.out).1.later HS.out.bel).alloc _) (HL.out x HX.out).2.2).mono ?_; rintro e5 w5 ⟨v7, rfl, hv7, hb5⟩)
        | go_in)
      have hwa : (w4.alloc (.map #[] 0)).heap.size = w4.heap.size + 1 := World.size_alloc _ _
      have HLe := Lib.hid (HL.out x HX.out).2.1
      have HI0 : Hid (CyI w4 g x (Gr.seekM g [] (Gr.canon (L x))) [] (Gr.canon (L x)) v7 w5) := Lib.hid ⟨Gr.Seek.start g x _ (fun y => by rw [Gr.mem_canon]; exact HLe.out y), List.nodup_nil, ownsRow_base_a hv7 (by omega), by
        have h0 := SMap.made (P := Try.prog) (k := 9) w4
        rw [mapF_nil tt] at h0
        exact h0.later hb5, rfl, by
        have h1 := HNL.out
        have h2 : (Gr.canon (L x)).length ≤ g.length := canon_sub_len (fun y hy => Gr.impsOf_sub ((HLe.out y).1 hy))
        have h3 : g.length * (g.length + 1) ≤ 1048576 * 1048577 := Nat.mul_le_mul h1 (by omega)
        unfold Gr.seekM
        simp only [List.length_nil, Nat.sub_zero]
        omega, (bel_alloc (Below.refl _ _) _).trans (hb5.mono (by omega))⟩
      have hwlt : w1.heap.size + 1 < w4.heap.size := HS.out.rg.lt
      clear hv7 hb5 hwa
      go_loopg [7] (Gr.seekM g [] (Gr.canon (L x))) (fun kq v7 wr => ∃ seen more, Hid (CyI w4 g x kq seen more v7 wr))
      case atStart => exact ⟨_, _, HI0⟩
      case round =>
        obtain ⟨seen, more, HI⟩ := hrel
        rcases List.eq_nil_or_concat more with hmore | ⟨init, a, hmore⟩
        · subst hmore
          obtain ⟨A7, c7, hv7, _⟩ := own_slice HI.out.row
          rw [List.length_nil] at hv7
          subst hv7
          have hst := HI.out.stop
          have HS5 := Lib.hid (HS.out.later HI.out.bel)
          cases hcy : cyB g x with
          | true =>
            rw [hcy] at hst
            have hd1 := set_look (b := true) hst
            go_wp2_with (first
              | (at_lookup; refine wpList_look_smap rfl _ _ 41 rfl 9 4 Try.underlying9 Try.underlying41 w4.heap.size _ (mapF seen tt) rfl HI.out.set (zero_bool _) (ba x) hxb (.bool true) rfl hd1 ?_)
              | (at_mapUpdate; refine wpList_put_smap rfl _ _ _ 41 rfl 9 4 Try.underlying9 Try.underlying41 w1.heap.size ss.length _ rfl HS5.out.out hssm (ba x) hxb (.bool true) rfl rfl ?_; intro w6 hm6 hg6; go_frame)
              | go_in)
            have HE := HS5.out.put (Nat.le_refl _) hBo hcy hm6 hg6
            go_roundw
            case rel => exact ⟨_, Lib.hid HE.1⟩
            case measure => rw [HM.out]; exact HE.2
          | false =>
            rw [hcy] at hst
            have hd1 := set_look (b := false) hst
            go_wp2_with (first
              | (at_lookup; refine wpList_look_smap rfl _ _ 41 rfl 9 4 Try.underlying9 Try.underlying41 w4.heap.size _ (mapF seen tt) rfl HI.out.set (zero_bool _) (ba x) hxb (.bool false) rfl hd1 ?_; go_frame)
              | go_in)
            have HE := Lib.hid (HS5.out.not hcy)
            go_roundw
            case rel => exact ⟨_, HE⟩
            case measure => rw [HM.out]; exact HS5.out.lf
        · rw [List.concat_eq_append] at hmore
          subst hmore
          obtain ⟨gb, cap, hv7, c0, hrow, hcap, hgb⟩ := row_last HI.out.row
          subst hv7
          have hpos := HI.out.pos
          have hml := HI.out.ml
          have han := (HI.out.sk.ok a (.inr (by simp))).names
          have hab := ba_size (HOK.out a han)
          have HAN := Lib.hid han
          have HROW := Lib.hid hrow
          have HPOS := Lib.hid hpos
          obtain ⟨q, hq⟩ : ∃ q, q = init.length + 1 := ⟨_, rfl⟩
          rw [← hq]
          have q1 : wrap64 ((q : Int) - 1) = (init.length : Int) := by unfold wrap64; omega
          have q2 : (0 : Int) < (q : Int) := by omega
          have q3 : 0 < q := by omega
          have q4 : (init.length : Int) < (q : Int) := by omega
          have q5 : init.length < q := by omega
          have q6 : 0 ≤ (init.length : Int) := by omega
          have q7 := cut_to (P := Try.prog) 25 9 .i64 Try.underlying25 hi0 (some ⟨gb, 0, none⟩) q cap (init.length : Int) q6 (by omega) (by omega)
          rw [Int.toNat_natCast] at q7
          clear hq hrow hcap hpos han
          by_cases ha : a ∈ seen
          · have hd1 := set_look (b := true) (decide_eq_true ha)
            go_wp2_with (first
              | (at_lookup; refine wpList_look_smap rfl _ _ 41 rfl 9 4 Try.underlying9 Try.underlying41 w4.heap.size _ (mapF seen tt) rfl HI.out.set (zero_bool _) (ba a) hab (.bool true) rfl hd1 ?_)
              | go_in)
            have HE := Lib.hid (HI.out.skip ha HROW.out)
            go_roundg (gk - 1)
            case measure => have := HPOS.out.1; omega
            case rel => exact ⟨seen, init, HE⟩
          · have hd1 := set_look (b := false) (decide_eq_false ha)
            have hsl : seen.length < maxLen := by
              have h1 := Gr.seek_len HI.out.sk HI.out.nd
              have h2 := HNL.out
              unfold maxLen
              omega
            have hlk2 := map_in (g := fun x => .map (some (blk x))) (.map none) HAN.out
            have hnrow := smap_row (W' := wr) HI.out.set HROW.out
            have hysl : (Gr.canon (L a)).length ≤ 1048576 := Nat.le_trans (canon_sub_len (fun y hy => Gr.impsOf_sub (((HL.out a HAN.out).2.1 y).1 hy))) HNL.out
            have hbd : (init.length + (Gr.canon (L a)).length) * 16 ≤ 140737488355328 := by have := HPOS.out.2; omega
            have hys : Gr.canon (L a) = Gr.canon (Gr.impsOf g a) := Gr.canon_eq (HL.out a HAN.out).2.1
            have HYS := Lib.hid hys
            clear hys
            go_wp2_with (first
              | (at_lookup; refine wpList_look_smap rfl _ _ 41 rfl 9 4 Try.underlying9 Try.underlying41 w4.heap.size _ (mapF seen tt) rfl HI.out.set (zero_bool _) (ba a) hab (.bool false) rfl hd1 ?_)
              | (at_mapUpdate; refine wpList_put_smap rfl _ _ _ 41 rfl 9 4 Try.underlying9 Try.underlying41 w4.heap.size seen.length _ rfl HI.out.set hsl (ba a) hab (.bool true) rfl rfl ?_; intro w6 hm6 hg6; have HB6 := Lib.hid (cy_bel HI.out hg6); have HR6 := Lib.hid (own_kept HROW.out fun b hb' => hg6.block b (HROW.out.lt b hb').2 (fun e => hnrow (by rw [hb', ← e]))); have HM6 := Lib.hid hm6)
              | (at_lookup; refine wpList_look_smap rfl _ _ 38 rfl 9 41 Try.underlying9 Try.underlying38 w.heap.size _ _ rfl ((HA.out.later HS.out.bel).later HB6.out) (zero_names _) (ba a) hab (.map (some (blk a))) rfl hlk2 ?_)
              | (go_at_call 25; refine (rising_any _ _ _ _ (((HL.out a HAN.out).1.later HS.out.bel).later HB6.out) (HL.out a HAN.out).2.2).mono ?_; rintro e8 w8 ⟨v8, rfl, hv8, hb8⟩)
              | (at_builtin; refine append_names rfl _ _ rfl w4.heap.size _ gb init.length cap v8 init (Gr.canon (L a)) rfl rfl rfl (own_later HR6.out hb8) hv8 hbd (by have h1 := HB6.out.size; have h2 := hb8.size; omega) ?_; intro g9 c9 w9 hr9 hg9; go_frame)
              | go_in)
            have HE := HI.out.see ha HYS.out hr9 (cy_set HM6.out hb8 hg9 (own_later HR6.out hb8)) ((HB6.out.trans (hb8.mono HB6.out.size)).grown hg9 (by have h1 := HB6.out.size; have h2 := hb8.size; omega) (fun k hk => by injection hk with hk; omega))
            have HEE := Lib.hid HE
            clear hm6 hg6 hv8 hb8 hr9 hg9 HE
            go_roundg (Gr.seekM g (a :: seen) (init ++ Gr.canon (L a)))
            case measure => exact HEE.out.1
            case rel => exact ⟨a :: seen, init ++ Gr.canon (L a), Lib.hid HEE.out.2⟩
end Go.Proofs.Ytpdilplgdbcjpaa
