/- few: the walk. -/
import Derived.Test.YtpdilplgdbcjpaaGwI
namespace Go.Proofs.Ytpdilplgdbcjpaa
open Go.RowKit Go.Maps Go.WideMaps PRef Go.Proofs.YtpdilplgdbcjpaaW.PrintWords Go.Shelf
set_option linter.unusedVariables false

/-- A node with at most so many imports. -/
def cutNd (d : Gr.Nd) : Gr.Nd := ⟨d.name, d.imps.take 40⟩
def fewP (l : List Gr.Nd) : List Gr.Nd := (l.take 60).map cutNd
theorem fewP_len (l : List Gr.Nd) : (fewP l).length ≤ 60 := by unfold fewP; rw [List.length_map, List.length_take]; omega
theorem cutNd_ok {d : Gr.Nd} (h : NdOk d) : NdOk (cutNd d) := ⟨h.1, by have := h.2.1; unfold cutNd; simp only [List.length_take]; omega, fun i hi => h.2.2 i (List.mem_of_mem_take hi)⟩
theorem fewP_ok {l : List Gr.Nd} (h : ∀ d ∈ l, d.name.length ≤ maxLen ∧ ∀ i ∈ d.imps, i.length ≤ maxLen) : ∀ d ∈ fewP l, NdOk d := by
  intro d hd
  obtain ⟨e, he, rfl⟩ := List.mem_map.1 hd
  have h1 := h e (List.mem_of_mem_take he)
  exact ⟨h1.1, by unfold cutNd big; simp only [List.length_take]; omega, fun i hi => h1.2 i (List.mem_of_mem_take hi)⟩
/-- A made row of nodes reads as one. -/
theorem rn_C {W : World} {base : Nat} {v : Value} {rns : List RN} (h : W.ownsRow base 36 2 v rns.length (rns.flatMap rnC)) (hok : ∀ r ∈ rns, RNok W r) :
    ∃ A c, v = .slice A rns.length c ∧ rns.length ≤ c ∧ Kd.C k36 W A ((rns.map (·.nd)).map ofNd).length ((rns.map (·.nd)).map ofNd) := by
  obtain ⟨A, c, hv, hl⟩ := own_slice h
  subst hv
  refine ⟨A, c, rfl, hl, rfl, ?_, fun hp => ?_⟩
  · rcases h.2 with ⟨_, h0⟩ | ⟨g, cap, cur, _, _, _, hc, hm, _⟩
    · simp; omega
    · unfold maxLen at hm; simp; omega
  · simp at hp
    obtain ⟨gb, hA⟩ := row_shape h hp
    subst hA
    refine ⟨_, rfl, fun j p hj => ?_⟩
    rw [List.map_map, List.getElem?_map] at hj
    obtain ⟨r, hr, hrp⟩ := Option.map_eq_some_iff.1 hj
    subst hrp
    obtain ⟨h1, h2⟩ := row_cells h hr
    have h3 := hok r (List.mem_of_getElem? hr)
    refine ⟨[.string (ba r.nd.name), .slice r.A r.nd.imps.length r.c], rfl, ?_, fun i u hi => ?_⟩
    · have h4 := k36_mk W (ofNd r.nd) (A1 := r.A) (c1 := r.c) (by simp only [ofNd, List.length_map]; exact h3.1) h3.2
      simp only [ofNd, List.length_map] at h4
      exact h4
    · match i, hi with
      | 0, hi => have : u = .string (ba r.nd.name) := by simpa using hi.symm
                 rw [this]; show W.cell? ((⟨gb, 0, none⟩ : Addr).add (j * 2 + 0)) = _; rw [add_at, Nat.zero_add, Nat.add_zero]; exact h1
      | 1, hi => have : u = .slice r.A r.nd.imps.length r.c := by simpa using hi.symm
                 rw [this]; show W.cell? ((⟨gb, 0, none⟩ : Addr).add (j * 2 + 1)) = _; rw [add_at, Nat.zero_add]; exact h2
      | i + 2, hi => simp at hi
structure FwI (w : World) (l : List Gr.Nd) (k : Nat) (v : Value) (rns : List RN) (W : World) : Prop where
  kl : k ≤ l.length
  nd : rns.map (·.nd) = (l.take k).map cutNd
  ok : ∀ r ∈ rns, RNok w r
  row : W.ownsRow w.heap.size 36 2 v rns.length (rns.flatMap rnC)
  bel : Below w.heap.size w W
theorem FwI.put {w : World} {l : List Gr.Nd} {k : Nat} {v v' : Value} {rns : List RN} {W W2 W3 : World} (h : FwI w l k v rns W) {d : Gr.Nd} (hd : l[k]? = some d) {r : RN} (hr : r.nd = cutNd d) (hrok : RNok w r) (hb : Below w.heap.size w W2)
    (hrow : W3.ownsRow w.heap.size 36 2 v' (rns.length + 1) (rns.flatMap rnC ++ rnC r)) (hg2 : W2.grownBy W3 v.ownBlock) : FwI w l (k + 1) v' (rns ++ [r]) W3 := by
  refine ⟨lt_len hd, by rw [List.map_append, h.nd, take_at hd]; simp [hr], ?_, by rw [List.length_append, rnC_snoc]; exact hrow, hb.grown hg2 hb.size (own_base h.row)⟩
  intro q hq
  rcases List.mem_append.1 hq with hq | hq
  · exact h.ok q hq
  · rw [List.mem_singleton.1 hq]; exact hrok
theorem RNok.cut {w : World} {d : Gr.Nd} {A : Option Addr} {c : Nat} (h : RNok w ⟨d, A, c⟩) : RNok w ⟨cutNd d, A, c⟩ := by
  refine ⟨?_, ?_⟩
  · have h1 : d.imps.length ≤ c := h.1
    show (d.imps.take 40).length ≤ c
    rw [List.length_take]
    omega
  · have h2 := Kd.C_take h.2 (m := (d.imps.take 40).length) (by rw [List.length_map, List.length_take]; exact Nat.min_le_right _ _)
    have e : (d.imps.map ba).take (d.imps.take 40).length = (d.imps.take 40).map ba := by
      rw [← List.map_take, List.length_take]
      congr 1
      rw [List.take_eq_take_iff]
      omega
    rw [e] at h2
    exact h2
theorem RNok.later {w w' : World} {r : RN} (h : RNok w r) (hb : Below w.heap.size w w') : RNok w' r := ⟨h.1, Kd.C_below h.2 hb⟩

theorem few_news (W : World) (s v v2 : Value) (t : TypeId) : ∀ j u, [s, v2][j]? = some u → ((W.alloc (.cells #[s, v] t)).alloc (.cells #[s, v2] t)).cell? ((⟨W.heap.size + 1, 0, none⟩ : Addr).add j) = some u := by
  have h := cell_two_new (W.alloc (.cells #[s, v] t)) s v2 t
  rw [World.size_alloc] at h
  exact h
set_option maxRecDepth 100000 in
set_option maxHeartbeats 4000000 in
theorem few_any (l : List Gr.Nd) (A : Option Addr) (c : Nat) (w : World) (hC : Kd.C k36 w A (l.map ofNd).length (l.map ofNd)) (hc : l.length ≤ c) :
    Calls Try.prog 11 #[.slice A l.length c] w fun e w' => ∃ A2 c2, e = .returned (.slice A2 (fewP l).length c2) ∧ (fewP l).length ≤ c2 ∧ Kd.C k36 w' A2 ((fewP l).map ofNd).length ((fewP l).map ofNd) ∧ Below w.heap.size w w' := by
  obtain ⟨i0, hi, hz0, hz1, hz2⟩ := info_parts info36
  obtain ⟨j0, hj, hy0, hy1, hy2⟩ := info_parts info9
  have HC := Lib.hid hC
  have hlm : l.length ≤ 9223372036854775807 := by have := hC.2.1; rw [List.length_map] at this; exact this
  have HI0 : Hid (FwI w l 0 (.slice none 0 0) [] w) := Lib.hid ⟨Nat.zero_le _, by simp, by simp, World.ownsRow_nil _ _ _ _, Below.refl _ _⟩
  clear hC
  by_cases hbig : (60 : Nat) < l.length
  · have q8 := cut_to (P := Try.prog) 22 36 .i64 Try.underlying22 hi A l.length c (60 : Int) (by omega) (by omega) hc
    rw [show (60 : Int).toNat = 60 from rfl] at q8
    have i8 : (60 : Int) < (l.length : Int) := by omega
    go_enter Try.func11, Try.ntmps11
    go_wp2_with (fail)
    go_loopw [3, 4] (fun v3 v4 wr => ∃ k rns, v4 = .int .i64 (k : Nat) ∧ Hid (k ≤ 60) ∧ Hid (FwI w l k v3 rns wr)) (fun _ v4 _ => 60 - (intOf v4).toNat)
    case atStart => exact ⟨0, [], rfl, Lib.hid (Nat.zero_le _), HI0⟩
    case round =>
      obtain ⟨k, rns, rfl, HK, HI⟩ := hrel
      have hk := HK.out
      by_cases hlt : k < 60
      · obtain ⟨d, hd⟩ : ∃ d, l[k]? = some d := ⟨_, List.getElem?_eq_getElem (by omega)⟩
        obtain ⟨ad, A1, c1, hA, x0, x1, hr⟩ := C_node HC.out hd
        rw [hA]
        replace x0 := cell_later HI.out.bel x0
        replace x1 := cell_later HI.out.bel x1
        have HD := Lib.hid hd
        have HR := Lib.hid hr.cut
        have HLT := Lib.hid hlt
        have i1 : (k : Int) < (60 : Int) := by omega
        have hrl : rns.length = k := by
          have := congrArg List.length HI.out.nd
          rw [List.length_map, List.length_map, List.length_take] at this
          omega
        have hrl2 : rns.length ≤ 60 := by omega
        have hrl3 := hr.1
        have HRL := Lib.hid hrl3
        clear hr hd hrl hrl3
        by_cases him : (40 : Nat) < d.imps.length
        · have j1 : (40 : Int) < (d.imps.length : Int) := by omega
          have q7 := cut_to (P := Try.prog) 25 9 .i64 Try.underlying25 hj A1 d.imps.length c1 (40 : Int) (by omega) (by omega) HRL.out
          have hcut : (cutNd d).imps.length = 40 := by unfold cutNd; rw [List.length_take]; omega
          rw [show (40 : Int).toNat = 40 from rfl] at q7
          have HCUT := Lib.hid hcut
          clear hcut
          have hbb := bel_alloc (Below.refl wr.heap.size wr) (.cells #[.string (ba d.name), .slice A1 d.imps.length c1] 36)
          have hbox := blk_new wr (.cells #[.string (ba d.name), .slice A1 d.imps.length c1] 36)
          go_wp2_with (first
            | (at_builtin; refine wpList_append_own _ rfl _ _ 22 rfl w.heap.size 36 i0 (.agg #[.string ⟨#[]⟩, .slice none 0 0]) 2 40 Try.underlying22 hi hz0 hz1 hz2 rfl (by decide) u3 rns.length (rns.flatMap rnC) rfl (own_later HI.out.row (bel_alloc (bel_alloc (Below.refl _ _) _) _)) ⟨wr.heap.size + 1, 0, none⟩ 1 1 [.string (ba d.name), .slice A1 40 c1] rfl rfl (few_news wr _ _ _ _) (by simp [Value.oneCell']) (by unfold maxLen; omega) (by omega) (by have := HI.out.bel.size; simp; omega) ?_; intro v' w6 hown6 hgrow6 hnil6; go_frame)
            | go_in)
          have HE := HI.out.put HD.out (r := ⟨cutNd d, A1, c1⟩) rfl HR.out (HI.out.bel.trans ((bel_alloc (bel_alloc (Below.refl _ _) _) _).mono HI.out.bel.size)) (by simp only [rnC, HCUT.out]; exact hown6) hgrow6
          have HEE := Lib.hid HE
          clear hown6 hgrow6 hnil6 HE
          go_roundw
          case rel => exact ⟨k + 1, _, by go_num, Lib.hid HLT.out, HEE⟩
          case measure => have := HLT.out; simp [intOf]; omega
        · have j1 : ¬ (40 : Int) < (d.imps.length : Int) := by omega
          have hcut : cutNd d = d := by unfold cutNd; rw [List.take_of_length_le (by omega)]
          have HCUT := Lib.hid hcut
          clear hcut
          go_wp2_with (first
            | (at_builtin; refine wpList_append_own _ rfl _ _ 22 rfl w.heap.size 36 i0 (.agg #[.string ⟨#[]⟩, .slice none 0 0]) 2 40 Try.underlying22 hi hz0 hz1 hz2 rfl (by decide) u3 rns.length (rns.flatMap rnC) rfl (own_later HI.out.row (bel_alloc (bel_alloc (Below.refl _ _) _) _)) ⟨wr.heap.size + 1, 0, none⟩ 1 1 [.string (ba d.name), .slice A1 d.imps.length c1] rfl rfl (few_news wr _ _ _ _) (by simp [Value.oneCell']) (by unfold maxLen; omega) (by omega) (by have := HI.out.bel.size; simp; omega) ?_; intro v' w6 hown6 hgrow6 hnil6; go_frame)
            | go_in)
          have HE := HI.out.put HD.out (r := ⟨cutNd d, A1, c1⟩) rfl HR.out (HI.out.bel.trans ((bel_alloc (bel_alloc (Below.refl _ _) _) _).mono HI.out.bel.size)) (by simp only [rnC, HCUT.out]; exact hown6) hgrow6
          have HEE := Lib.hid HE
          clear hown6 hgrow6 hnil6 HE
          go_roundw
          case rel => exact ⟨k + 1, _, by go_num, Lib.hid HLT.out, HEE⟩
          case measure => have := HLT.out; simp [intOf]; omega
      · obtain rfl : k = 60 := by omega
        have hE := rn_C HI.out.row (fun r hr => (HI.out.ok r hr).later HI.out.bel)
        obtain ⟨A9, c9, hv9, hc9, hC9⟩ := hE
        have hfew : rns.map (·.nd) = fewP l := by rw [HI.out.nd]; rfl
        rw [hfew] at hC9
        have hlen9 : rns.length = (fewP l).length := by rw [← hfew, List.length_map]
        rw [hlen9] at hv9 hc9
        subst hv9
        have HB9 := Lib.hid HI.out.bel
        have HC9 := Lib.hid hC9
        clear hC9 hlen9 hfew
        go_wp2_with (fail)
        go_ret
        exact ⟨A9, c9, rfl, hc9, HC9.out, HB9.out⟩
  · have i8 : ¬ (60 : Int) < (l.length : Int) := by omega
    go_enter Try.func11, Try.ntmps11
    go_wp2_with (fail)
    go_loopw [3, 4] (fun v3 v4 wr => ∃ k rns, v4 = .int .i64 (k : Nat) ∧ Hid (k ≤ l.length) ∧ Hid (FwI w l k v3 rns wr)) (fun _ v4 _ => l.length - (intOf v4).toNat)
    case atStart => exact ⟨0, [], rfl, Lib.hid (Nat.zero_le _), HI0⟩
    case round =>
      obtain ⟨k, rns, rfl, HK, HI⟩ := hrel
      have hk := HK.out
      by_cases hlt : k < l.length
      · obtain ⟨d, hd⟩ : ∃ d, l[k]? = some d := ⟨_, List.getElem?_eq_getElem (by omega)⟩
        obtain ⟨ad, A1, c1, hA, x0, x1, hr⟩ := C_node HC.out hd
        rw [hA]
        replace x0 := cell_later HI.out.bel x0
        replace x1 := cell_later HI.out.bel x1
        have HD := Lib.hid hd
        have HR := Lib.hid hr.cut
        have HLT := Lib.hid hlt
        have i1 : (k : Int) < (l.length : Int) := by omega
        have hrl : rns.length = k := by
          have := congrArg List.length HI.out.nd
          rw [List.length_map, List.length_map, List.length_take] at this
          omega
        have hrl2 : rns.length ≤ 60 := by omega
        have hrl3 := hr.1
        have HRL := Lib.hid hrl3
        clear hr hd hrl hrl3
        by_cases him : (40 : Nat) < d.imps.length
        · have j1 : (40 : Int) < (d.imps.length : Int) := by omega
          have q7 := cut_to (P := Try.prog) 25 9 .i64 Try.underlying25 hj A1 d.imps.length c1 (40 : Int) (by omega) (by omega) HRL.out
          have hcut : (cutNd d).imps.length = 40 := by unfold cutNd; rw [List.length_take]; omega
          rw [show (40 : Int).toNat = 40 from rfl] at q7
          have HCUT := Lib.hid hcut
          clear hcut
          have hbb := bel_alloc (Below.refl wr.heap.size wr) (.cells #[.string (ba d.name), .slice A1 d.imps.length c1] 36)
          have hbox := blk_new wr (.cells #[.string (ba d.name), .slice A1 d.imps.length c1] 36)
          go_wp2_with (first
            | (at_builtin; refine wpList_append_own _ rfl _ _ 22 rfl w.heap.size 36 i0 (.agg #[.string ⟨#[]⟩, .slice none 0 0]) 2 40 Try.underlying22 hi hz0 hz1 hz2 rfl (by decide) u3 rns.length (rns.flatMap rnC) rfl (own_later HI.out.row (bel_alloc (bel_alloc (Below.refl _ _) _) _)) ⟨wr.heap.size + 1, 0, none⟩ 1 1 [.string (ba d.name), .slice A1 40 c1] rfl rfl (few_news wr _ _ _ _) (by simp [Value.oneCell']) (by unfold maxLen; omega) (by omega) (by have := HI.out.bel.size; simp; omega) ?_; intro v' w6 hown6 hgrow6 hnil6; go_frame)
            | go_in)
          have HE := HI.out.put HD.out (r := ⟨cutNd d, A1, c1⟩) rfl HR.out (HI.out.bel.trans ((bel_alloc (bel_alloc (Below.refl _ _) _) _).mono HI.out.bel.size)) (by simp only [rnC, HCUT.out]; exact hown6) hgrow6
          have HEE := Lib.hid HE
          clear hown6 hgrow6 hnil6 HE
          go_roundw
          case rel => exact ⟨k + 1, _, by go_num, Lib.hid HLT.out, HEE⟩
          case measure => have := HLT.out; simp [intOf]; omega
        · have j1 : ¬ (40 : Int) < (d.imps.length : Int) := by omega
          have hcut : cutNd d = d := by unfold cutNd; rw [List.take_of_length_le (by omega)]
          have HCUT := Lib.hid hcut
          clear hcut
          go_wp2_with (first
            | (at_builtin; refine wpList_append_own _ rfl _ _ 22 rfl w.heap.size 36 i0 (.agg #[.string ⟨#[]⟩, .slice none 0 0]) 2 40 Try.underlying22 hi hz0 hz1 hz2 rfl (by decide) u3 rns.length (rns.flatMap rnC) rfl (own_later HI.out.row (bel_alloc (bel_alloc (Below.refl _ _) _) _)) ⟨wr.heap.size + 1, 0, none⟩ 1 1 [.string (ba d.name), .slice A1 d.imps.length c1] rfl rfl (few_news wr _ _ _ _) (by simp [Value.oneCell']) (by unfold maxLen; omega) (by omega) (by have := HI.out.bel.size; simp; omega) ?_; intro v' w6 hown6 hgrow6 hnil6; go_frame)
            | go_in)
          have HE := HI.out.put HD.out (r := ⟨cutNd d, A1, c1⟩) rfl HR.out (HI.out.bel.trans ((bel_alloc (bel_alloc (Below.refl _ _) _) _).mono HI.out.bel.size)) (by simp only [rnC, HCUT.out]; exact hown6) hgrow6
          have HEE := Lib.hid HE
          clear hown6 hgrow6 hnil6 HE
          go_roundw
          case rel => exact ⟨k + 1, _, by go_num, Lib.hid HLT.out, HEE⟩
          case measure => have := HLT.out; simp [intOf]; omega
      · obtain rfl : k = l.length := by omega
        have hE := rn_C HI.out.row (fun r hr => (HI.out.ok r hr).later HI.out.bel)
        obtain ⟨A9, c9, hv9, hc9, hC9⟩ := hE
        have hfew : rns.map (·.nd) = fewP l := by rw [HI.out.nd]; unfold fewP; rw [List.take_of_length_le (Nat.le_refl _), List.take_of_length_le (by omega)]
        rw [hfew] at hC9
        have hlen9 : rns.length = (fewP l).length := by rw [← hfew, List.length_map]
        rw [hlen9] at hv9 hc9
        subst hv9
        have HB9 := Lib.hid HI.out.bel
        have HC9 := Lib.hid hC9
        clear hC9 hlen9 hfew
        go_wp2_with (fail)
        go_ret
        exact ⟨A9, c9, rfl, hc9, HC9.out, HB9.out⟩
end Go.Proofs.Ytpdilplgdbcjpaa
