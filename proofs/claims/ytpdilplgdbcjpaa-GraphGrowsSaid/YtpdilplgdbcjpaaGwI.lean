/- The walks of the document's Reached and Cyclic. -/
import Derived.Test.YtpdilplgdbcjpaaGwH
import Derived.StillTailTactics
import Derived.Deep.RegionHeld3
namespace Go.Proofs.Ytpdilplgdbcjpaa
open Go.RowKit Go.Maps Go.WideMaps PRef Go.Proofs.YtpdilplgdbcjpaaW.PrintWords Go.Shelf
set_option linter.unusedVariables false

/-- The document's search from n, between two rounds. -/
structure RcI (w1 : World) (g : List Gr.Nd) (n : Str) (kq : Nat) (seen more : List Str) (v5 v6 : Value) (W : World) : Prop where
  sk : Gr.Seek g n seen more
  up : Gr.Up seen
  que : QRow W w1.heap.size 9 1 v5 more.length (more.map encStr)
  out : W.ownsRow w1.heap.size 9 1 v6 seen.length (seen.map encStr)
  sep : ∀ k, v5.ownBlock = some k → v6.ownBlock ≠ some k
  ms : Gr.seekM g seen more = kq
  ml : kq ≤ 4398046511104
  bel : Below w1.heap.size w1 W
theorem seekM_len {g : List Gr.Nd} {seen more : List Str} : more.length ≤ Gr.seekM g seen more := by unfold Gr.seekM; omega
/-- The queue's head, and what is left behind 'more[1:]'. -/
theorem queue_head {W : World} {base : Nat} {v : Value} {a : Str} {r : List Str} (h : QRow W base 9 1 v (a :: r).length ((a :: r).map encStr)) :
    ∃ ad ad' cap, v = .slice (some ad) (r.length + 1) cap ∧ W.cell? ad = some (.string (ba a)) ∧ (∀ W' : World, (Instr.slice 25 (.slice (some ad) (r.length + 1) cap) (some (.int .i64 1)) none none).run Try.prog W' = .ok (.slice (some ad') r.length (cap - 1)) W') ∧
      QRow W base 9 1 (.slice (some ad') r.length (cap - 1)) r.length (r.map encStr) ∧ ad'.block = ad.block := by
  obtain ⟨i0, hi, hz0, hz1, hz2⟩ := info_parts info9
  obtain ⟨A, cap, hv, hcap⟩ := q_slice h
  subst hv
  obtain ⟨ad, hA, hcells⟩ := q_cells h (by simp)
  subst hA
  have hc0 := hcells 0 (encStr a) rfl
  have had : ad.add 0 = ad := by unfold Addr.add; split <;> simp_all
  rw [had] at hc0
  have hq := q_drop (k := 1) h (by simp)
  have hcut := cut_from (P := Try.prog) 25 9 .i64 Try.underlying25 hi 1 hz1 (some ad) (a :: r).length cap 1 (by omega) (by rw [List.length_cons]; omega)
  have e1 : (1 : Int).toNat = 1 := rfl
  rw [e1] at hcut
  simp only [List.length_cons, Nat.add_sub_cancel, Nat.mul_one, List.map_cons, List.drop_succ_cons, List.drop_zero, Option.map_some] at hq hcut hcap ⊢
  by_cases hc : cap = 1
  · rw [if_pos hc] at hq
    refine ⟨ad, ad, cap, rfl, hc0, ?_, hq, rfl⟩
    intro W'
    have := hcut W'
    rw [if_pos hc] at this
    exact this
  · rw [if_neg hc] at hq
    refine ⟨ad, ad.add 1, cap, rfl, hc0, ?_, hq, by unfold Addr.add; split <;> rfl⟩
    intro W'
    have := hcut W'
    rw [if_neg hc] at this
    exact this
theorem RcI.skip {w1 : World} {g : List Gr.Nd} {n : Str} {kq : Nat} {a : Str} {seen r : List Str} {v5 v5' v6 : Value} {W W' : World} (h : RcI w1 g n kq seen (a :: r) v5 v6 W) (ha : a ∈ seen) (hq : QRow W w1.heap.size 9 1 v5' r.length (r.map encStr)) (hb5 : v5'.ownBlock = v5.ownBlock)
    (hb : Below W.heap.size W W') : RcI w1 g n (kq - 1) seen r v5' v6 W' ∧ kq - 1 < kq := by
  have h1 := h.ms
  have h2 := h.ml
  unfold Gr.seekM at h1
  rw [List.length_cons] at h1
  exact ⟨⟨h.sk.skip ha, h.up, q_move hq fun k hk => hb.block k (q_lt hq k hk), own_later h.out hb, fun k hk => h.sep k (by rw [← hb5]; exact hk), by unfold Gr.seekM; omega, by omega, h.bel.trans (hb.mono h.bel.size)⟩, by omega⟩
theorem RcI.see {w1 : World} {g : List Gr.Nd} {n : Str} {kq : Nat} {a : Str} {seen r ys : List Str} {v5 v5'' v6 v6' : Value} {W W2 W3 W4 : World} {gb : Nat} (h : RcI w1 g n kq seen (a :: r) v5 v6 W) (ha : a ∉ seen) (hys : ∀ x, x ∈ ys ↔ x ∈ Gr.impsOf g a) (hyl : ys.length ≤ g.length)
    (hb2 : Below W.heap.size W W2) (hout : W2.ownsRow W.heap.size 9 1 v6' (Gr.withS seen a).length ((Gr.withS seen a).map encStr)) (hb3 : Below W2.heap.size W2 W3)
    (hg5 : v5.ownBlock = some gb) (hgl : gb < W.heap.size) (hbase : w1.heap.size ≤ gb) (hque : QRow W4 w1.heap.size 9 1 v5'' (r ++ ys).length ((r ++ ys).map encStr)) (hgr : W3.grownBy W4 (some gb)) (hloc : v5''.ownBlock = some gb ∨ ∃ b, v5''.ownBlock = some b ∧ W3.heap.size ≤ b) :
    Gr.seekM g (Gr.withS seen a) (r ++ ys) < kq ∧ RcI w1 g n (Gr.seekM g (Gr.withS seen a) (r ++ ys)) (Gr.withS seen a) (r ++ ys) v5'' v6' W4 := by
  have hlen : (Gr.withS seen a).length = seen.length + 1 := by unfold Gr.withS; rw [if_neg ha, Gr.len_insS]
  have h1 := Gr.seekM_see (g := g) (seen := seen) (seen' := Gr.withS seen a) (more := r) (more' := r ++ ys) (a := a) (Gr.seek_room h.sk h.up.nodup ha) hlen (by rw [List.length_append]; omega)
  rw [h.ms] at h1
  have h2 := h.ml
  have s2 := hb2.size
  have s3 := hb3.size
  have hbl : Below W.heap.size W W3 := hb2.trans (hb3.mono s2)
  refine ⟨h1, ?_, Gr.withS_up h.up a, hque, ?_, ?_, rfl, by omega, (h.bel.trans (hbl.mono h.bel.size)).grown hgr (Nat.le_trans h.bel.size (Nat.le_trans s2 s3)) (fun k hk => by injection hk with hk; omega)⟩
  · exact (h.sk.see (more' := r ++ ys) (fun x => by rw [List.mem_append, hys])).congr (fun x => by rw [Gr.mem_withS, List.mem_cons]) (fun x => Iff.rfl)
  · have ho3 := own_later hout hb3
    exact ownsRow_base_a (own_kept ho3 fun k hk => hgr.block k (ho3.lt k hk).2 (fun e => by injection e with e; have := own_base hout k hk; omega)) h.bel.size
  · intro k hk hk2
    have a1 := own_base hout k hk2
    have a2 := (hout.lt k hk2).2
    rcases hloc with e | ⟨b, e, hb⟩
    · rw [e] at hk; injection hk with hk; omega
    · rw [e] at hk; injection hk with hk; omega
theorem imp_row (g : List Gr.Nd) (hn : (Gr.names g).Nodup) (n : Str) : (∀ x, x ∈ Gr.canon (Gr.impRow g n g) ↔ x ∈ Gr.impsOf g n) ∧ (Gr.canon (Gr.impRow g n g)).length ≤ g.length := by
  refine ⟨fun x => by rw [Gr.mem_canon, Gr.impRow_all hn], ?_⟩
  rw [Gr.impRow_canon hn]
  exact Gr.imps_len g n

set_option maxRecDepth 100000 in
set_option maxHeartbeats 4000000 in
theorem reached_any (l : List Gr.Nd) (A : Option Addr) (c : Nat) (n : Str) (w : World) (hC : Kd.C k36 w A (l.map ofNd).length (l.map ofNd)) (hc : l.length ≤ c) (hl : l.length ≤ 1048576) (hok : ∀ d ∈ l, NdOk d) :
    Calls Try.prog 29 #[.slice A l.length c, .string (ba n)] w fun e w' => ∃ (v : Value) (O : List Str), e = .returned v ∧ w'.ownsRow w.heap.size 9 1 v O.length (O.map encStr) ∧ (∀ x, x ∈ O ↔ Gr.Reach (Gr.nodes l) n x) ∧ O.length ≤ (Gr.nodes l).length ∧ Below w.heap.size w w' := by
  have HN := Lib.hid (rnodes_any l A c w hC hc (by unfold big; omega))
  have HNL := Lib.hid (Nat.le_trans (nodes_len l) hl)
  have HOK : Hid (∀ d ∈ Gr.nodes l, NdOk d) := Lib.hid (fun d hd => hok d (Gr.nodes_mem hd))
  have HND := Lib.hid (Gr.nodes_nodup l)
  clear hC hc hl hok
  generalize Gr.nodes l = g at *
  go_enter Try.func29, Try.ntmps29
  go_wp2_with (first
    | (go_at_call 26; refine HN.out.mono ?_; rintro e1 w1 ⟨A2, c2, rfl, hc2, hC1, hb1⟩)
    | (go_at_call 33; refine (rimports_any g A2 c2 _ hC1 hc2 (by have := HNL.out; unfold big; omega) HOK.out n).mono ?_; rintro e2 w2 ⟨v5, rfl, hv5, hb2⟩))
  have HIR := Lib.hid (imp_row g HND.out)
  have HC1 := Lib.hid hC1
  have HB1 := Lib.hid hb1
  have hml : Gr.seekM g [] (Gr.canon (Gr.impRow g n g)) ≤ 4398046511104 := by
    have h1 := HNL.out
    have h2 := (HIR.out n).2
    have h3 : g.length * (g.length + 1) ≤ 1048576 * 1048577 := Nat.mul_le_mul h1 (by omega)
    unfold Gr.seekM
    simp only [List.length_nil, Nat.sub_zero]
    omega
  have HI0 : Hid (RcI w1 g n (Gr.seekM g [] (Gr.canon (Gr.impRow g n g))) [] (Gr.canon (Gr.impRow g n g)) v5 (.slice none 0 0) w2) := Lib.hid ⟨Gr.Seek.start g n _ (HIR.out n).1, trivial, q_of_own hv5, World.ownsRow_nil _ _ _ _, by simp [Value.ownBlock], rfl, hml, hb2⟩
  have hs1 := hb1.size
  clear hC1 hb1 hv5 hb2 HN hml
  go_loopg [5, 6] (Gr.seekM g [] (Gr.canon (Gr.impRow g n g))) (fun kq v5 v6 wr => ∃ seen more, Hid (RcI w1 g n kq seen more v5 v6 wr))
  case atStart => exact ⟨_, _, HI0⟩
  case round =>
    obtain ⟨seen, more, HI⟩ := hrel
    cases more with
    | nil =>
      obtain ⟨A5, c5, hv5, _⟩ := q_slice HI.out.que
      rw [List.length_nil] at hv5
      subst hv5
      go_wp2_with (fail)
      go_ret
      have hsl := Gr.seek_len HI.out.sk HI.out.up.nodup
      exact ⟨_, seen, rfl, ownsRow_base_a HI.out.out hs1, HI.out.sk.end, hsl, HB1.out.trans (HI.out.bel.mono hs1)⟩
    | cons a r =>
      obtain ⟨ad, ad', cap, hv5, c0, hcut, hq, hblk⟩ := queue_head HI.out.que
      subst hv5
      obtain ⟨A6, c6, hv6, hc6, hC6⟩ := own_C HI.out.out
      subst hv6
      have hsl := Gr.seek_len HI.out.sk HI.out.up.nodup
      have hsb : seen.length ≤ big := by have := HNL.out; unfold big; omega
      have HQ := Lib.hid hq
      have HBLK := Lib.hid (And.intro hblk (And.intro (q_typed HI.out.que ad.block (by simp [Value.ownBlock])).1 (q_lt HI.out.que ad.block (by simp [Value.ownBlock]))))
      have HAN := Lib.hid ((HI.out.sk.ok a (.inr List.mem_cons_self)).names)
      have HML := Lib.hid (Nat.le_trans (seekM_len (g := g) (seen := seen)) (Nat.le_of_eq HI.out.ms))
      obtain ⟨q, hqq⟩ : ∃ q, q = r.length + 1 := ⟨_, rfl⟩
      rw [← hqq] at hcut ⊢
      have q1 : (0 : Int) < (q : Int) := by omega
      have q2 : 0 < q := by omega
      clear hq hblk hqq
      generalize cap - 1 = cap' at hcut HQ
      have HHAS := Lib.hid (has_any seen a A6 c6 wr hC6 hc6 hsb)
      by_cases ha : a ∈ seen
      · rw [decide_eq_true ha] at HHAS
        go_wp2_with (first
          | (go_at_call 27; refine HHAS.out.mono ?_; rintro e3 w3 ⟨rfl, hb3⟩)
          | go_in)
        have HE := Lib.hid (HI.out.skip (v5' := .slice (some ad') r.length cap') ha HQ.out (by simp [Value.ownBlock, HBLK.out.1]) hb3)
        clear hb3
        go_roundg (gk - 1)
        case measure => exact HE.out.2
        case rel => exact ⟨seen, r, Lib.hid HE.out.1⟩
      · rw [decide_eq_false ha] at HHAS
        have hwl : r.length + (Gr.canon (Gr.impRow g a g)).length ≤ 8796093022208 := by
          have h1 := HML.out
          have h2 := HI.out.ml
          have h3 := (HIR.out a).2
          have h4 := HNL.out
          rw [List.length_cons] at h1
          omega
        go_wp2_with (first
          | (go_at_call 27; refine HHAS.out.mono ?_; rintro e3 w3 ⟨rfl, hb3⟩)
          | (go_at_call 28; refine (with_any seen a A6 c6 _ (Kd.C_below hC6 hb3) hc6 hsb).mono ?_; rintro e4 w4 ⟨v6', rfl, hv6', hb4⟩)
          | (go_at_call 33; refine (rimports_any g A2 c2 _ (Kd.C_below HC1.out (((HI.out.bel.trans (hb3.mono HI.out.bel.size))).trans (hb4.mono (Nat.le_trans HI.out.bel.size hb3.size)))) hc2 (by have := HNL.out; unfold big; omega) HOK.out a).mono ?_; rintro e5 w5 ⟨v7, rfl, hv7, hb5⟩)
          | (at_builtin; refine append_queue rfl _ _ rfl w1.heap.size _ r.length cap' ad' v7 r (Gr.canon (Gr.impRow g a g)) rfl rfl rfl (q_move HQ.out fun k hk => ((hb5.mono (Nat.le_trans hb3.size hb4.size)).block k (q_lt HQ.out k hk)).trans (((hb4.mono hb3.size).block k (q_lt HQ.out k hk)).trans (hb3.block k (q_lt HQ.out k hk)))) hv7 (by omega) (by have h1 := HI.out.bel.size; have h2 := hb3.size; have h3 := hb4.size; have h4 := hb5.size; omega) ?_; intro v8 w8 hq8 hg8 hl8; go_frame)
          | go_in)
        have HE := HI.out.see (gb := ad.block) ha (HIR.out a).1 (HIR.out a).2 (hb3.trans (hb4.mono hb3.size)) (ownsRow_base_a hv6' hb3.size) hb5 (by simp [Value.ownBlock]) HBLK.out.2.2 HBLK.out.2.1 hq8 (by rw [← HBLK.out.1]; exact hg8) (by rw [← HBLK.out.1]; exact hl8)
        have HEE := Lib.hid HE
        clear hb3 hb4 hb5 hv6' hv7 hq8 hg8 hl8 HE
        go_roundg (Gr.seekM g (Gr.withS seen a) (r ++ Gr.canon (Gr.impRow g a g)))
        case measure => exact HEE.out.1
        case rel => exact ⟨_, _, Lib.hid HEE.out.2⟩

open Classical in
theorem cyD (g : List Gr.Nd) (n : Str) {O : List Str} (h : ∀ x, x ∈ O ↔ Gr.Reach g n x) : decide (n ∈ O) = cyB g n := by
  unfold cyB
  by_cases hn : n ∈ O
  · rw [decide_eq_true hn, decide_eq_true ((h n).1 hn)]
  · rw [decide_eq_false hn, decide_eq_false (fun hr => hn ((h n).2 hr))]
/-- The document's Cyclic behind k nodes. -/
structure RyI (w1 : World) (g : List Gr.Nd) (k : Nat) (v : Value) (W : World) : Prop where
  kl : k ≤ g.length
  row : W.ownsRow w1.heap.size 9 1 v (Gr.rowIf (g.take k) (cyB g)).length ((Gr.rowIf (g.take k) (cyB g)).map encStr)
  bel : Below w1.heap.size w1 W
theorem RyI.step {w1 : World} {g : List Gr.Nd} {k : Nat} {v : Value} {W W' W'' : World} (h : RyI w1 g k v W) {d : Gr.Nd} (hd : g[k]? = some d) (hb : Below W.heap.size W W') :
    (cyB g d.name = false → RyI w1 g (k + 1) v W') ∧ ∀ v', cyB g d.name = true → Below W'.heap.size W' W'' → W''.ownsRow W'.heap.size 9 1 v' (Gr.withS (Gr.rowIf (g.take k) (cyB g)) d.name).length ((Gr.withS (Gr.rowIf (g.take k) (cyB g)) d.name).map encStr) → RyI w1 g (k + 1) v' W'' := by
  have hs := h.bel.size
  have hs2 := hb.size
  refine ⟨fun hc => ⟨lt_len hd, ?_, h.bel.trans (hb.mono hs)⟩, fun v' hc hb2 hr => ⟨lt_len hd, ?_, (h.bel.trans (hb.mono hs)).trans (hb2.mono (Nat.le_trans hs hs2))⟩⟩
  · rw [take_at hd, Gr.rowIf_snoc, if_neg (by rw [hc]; simp)]
    exact own_later h.row hb
  · rw [take_at hd, Gr.rowIf_snoc, if_pos hc]
    exact ownsRow_base_a hr (Nat.le_trans hs hs2)
set_option maxRecDepth 100000 in
set_option maxHeartbeats 4000000 in
theorem rcyclic_any (l : List Gr.Nd) (A : Option Addr) (c : Nat) (w : World) (hC : Kd.C k36 w A (l.map ofNd).length (l.map ofNd)) (hc : l.length ≤ c) (hl : l.length ≤ 1048576) (hok : ∀ d ∈ l, NdOk d) :
    Calls Try.prog 16 #[.slice A l.length c] w (RowR w (Gr.cycP (Gr.nodes l))) := by
  have HN := Lib.hid (rnodes_any l A c w hC hc (by unfold big; omega))
  have HNL := Lib.hid (Nat.le_trans (nodes_len l) hl)
  have HOK : Hid (∀ d ∈ Gr.nodes l, NdOk d) := Lib.hid (fun d hd => hok d (Gr.nodes_mem hd))
  have HND := Lib.hid (Gr.nodes_nodup l)
  clear hC hc hl hok
  generalize Gr.nodes l = g at *
  go_enter Try.func16, Try.ntmps16
  go_wp2_with (first
    | (go_at_call 26; refine HN.out.mono ?_; rintro e1 w1 ⟨A2, c2, rfl, hc2, hC1, hb1⟩))
  have HC1 := Lib.hid hC1
  have HB1 := Lib.hid hb1
  have hlm : g.length ≤ 9223372036854775807 := by have := HNL.out; omega
  have HI0 : Hid (RyI w1 g 0 (.slice none 0 0) w1) := Lib.hid ⟨Nat.zero_le _, World.ownsRow_nil _ _ _ _, Below.refl _ _⟩
  clear hC1 hb1 HN
  go_loopw [3, 4] (fun v3 v4 wr => ∃ k : Nat, v4 = .int .i64 k ∧ Hid (RyI w1 g k v3 wr)) (fun _ v4 _ => g.length - (intOf v4).toNat)
  case atStart => exact ⟨0, rfl, HI0⟩
  case round =>
    obtain ⟨k, rfl, HI⟩ := hrel
    have hk := HI.out.kl
    by_cases hlt : k < g.length
    · obtain ⟨d, hd⟩ : ∃ d, g[k]? = some d := ⟨_, List.getElem?_eq_getElem hlt⟩
      obtain ⟨ad, A1, c1, hA, x0, x1, hr⟩ := C_node HC1.out hd
      subst hA
      have HD := Lib.hid hd
      have HBW := Lib.hid HI.out.bel
      have x0w := cell_later HI.out.bel x0
      have HX : Hid (∀ W, Below wr.heap.size wr W → W.cell? (ad.add (k * 2)) = some (.string (ba d.name))) := Lib.hid fun W hW => cell_later hW x0w
      have HRE : Hid (∀ W, Below wr.heap.size wr W → Calls Try.prog 29 #[.slice (some ad) g.length c2, .string (ba d.name)] W fun e w' => ∃ (A3 : Option Addr) (c3 : Nat) (O : List Str), e = .returned (.slice A3 O.length c3) ∧ O.length ≤ c3 ∧ Kd.string.C w' A3 (O.map ba).length (O.map ba) ∧ (∀ x, x ∈ O ↔ Gr.Reach g d.name x) ∧ O.length ≤ big ∧ Below wr.heap.size wr w') := Lib.hid fun W hW => by
        have h0 := reached_any g (some ad) c2 d.name W (Kd.C_below (Kd.C_below HC1.out HBW.out) hW) hc2 HNL.out HOK.out
        refine h0.mono fun e w' h => ?_
        obtain ⟨v, O, rfl, h2, h3, h4, h5⟩ := h
        obtain ⟨A3, c3, rfl, h6, h7⟩ := own_C h2
        rw [Gr.nodes_of_nodup HND.out] at h3 h4
        exact ⟨A3, c3, O, rfl, h6, h7, h3, by have := HNL.out; unfold big; omega, hW.trans (h5.mono hW.size)⟩
      have HHA : Hid (∀ (O : List Str) (A3 : Option Addr) (c3 : Nat) (W : World), Below wr.heap.size wr W → Kd.string.C W A3 (O.map ba).length (O.map ba) → O.length ≤ c3 → O.length ≤ big → (∀ x, x ∈ O ↔ Gr.Reach g d.name x) → Calls Try.prog 27 #[.slice A3 O.length c3, .string (ba d.name)] W fun e w' => e = .returned (.bool (cyB g d.name)) ∧ Below wr.heap.size wr w') := Lib.hid fun O A3 c3 W hW hC hc hl hO => by
        refine (has_any O d.name A3 c3 W hC hc hl).mono fun e w' h => ⟨?_, hW.trans (h.2.mono hW.size)⟩
        rw [h.1, cyD g d.name hO]
      have i1 : (k : Int) < g.length := by omega
      have hB0 := Below.refl wr.heap.size wr
      have x0 := x0w
      clear x0w
      obtain ⟨Ar, cr, hv3, hcr, hCr⟩ := own_C HI.out.row
      subst hv3
      have HROW := Lib.hid HI.out.row
      have HCR := Lib.hid hCr
      clear hd x1 hr hCr
      go_wp2_with (fail)
      go_region_held3 (fun W : World => W.cell? (ad.add (k * 2)) = some (.string (ba d.name))) ((refine HX.out _ ?_; repeat (first | assumption | refine bel_drew ?_ | refine bel_drewN ?_ _))) (first | (go_at_call 29; refine (HRE.out _ (by repeat (first | assumption | refine bel_drew ?_ | refine bel_drewN ?_ _))).mono ?_; rintro e3 w3 ⟨A3, c3, O, rfl, hc3, hC3, hO3, hOl3, hb3⟩) | (go_at_call 27; refine (HHA.out O A3 c3 _ (by repeat (first | assumption | refine bel_drew ?_ | refine bel_drewN ?_ _)) (Kd.C_below hC3 (by repeat (first | assumption | exact Below.refl _ _ | refine bel_drew ?_ | refine bel_drewN ?_ _))) hc3 hOl3 hO3).mono ?_; rintro e4 w4 ⟨rfl, hb4⟩))
      try clear hHeld
      cases hcy : cyB g d.name with
      | true =>
        have hrl := rowIf_len (g.take k) (cyB g)
        rw [List.length_take] at hrl
        have x4 := HX.out w4 hb4
        go_wp2_with (first
          | (go_at_call 28; refine (with_any (Gr.rowIf (g.take k) (cyB g)) d.name Ar cr _ (Kd.C_below HCR.out hb4) hcr (by have := HNL.out; unfold big; omega)).mono ?_; rintro e5 w5 ⟨v5, rfl, hv5, hb5⟩)
          | go_in)
        have HE := Lib.hid ((HI.out.step HD.out hb4).2 v5 hcy hb5 hv5)
        clear hb4 hb5 hv5
        go_roundw
        case rel => exact ⟨k + 1, by go_num, HE⟩
        case measure => have := lt_len HD.out; simp [intOf]; omega
      | false =>
        have HE := Lib.hid ((HI.out.step (W'' := w4) HD.out hb4).1 hcy)
        go_wp2_with (fail)
        go_roundw
        case rel => exact ⟨k + 1, by go_num, HE⟩
        case measure => have := lt_len HD.out; simp [intOf]; omega
    · obtain rfl : k = g.length := by omega
      have HR := HI.out.row
      rw [List.take_length] at HR
      go_wp2_with (fail)
      go_ret
      exact ⟨_, rfl, ownsRow_base_a HR HB1.out.size, HB1.out.trans (HI.out.bel.mono HB1.out.size)⟩
end Go.Proofs.Ytpdilplgdbcjpaa
