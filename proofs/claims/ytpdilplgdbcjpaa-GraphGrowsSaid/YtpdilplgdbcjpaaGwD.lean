/- A set's names in order (names.rising); maps of sets. graph.ready. graph.imports: its first loop's and its second loop's relations. The walk of graph.imports. -/
import Derived.Test.YtpdilplgdbcjpaaNSet
import Derived.Test.YtpdilplgdbcjpaaIter
import Derived.Test.YtpdilplgdbcjpaaGwQ
import Derived.Scope
import Derived.WalkMore
namespace Go.Proofs.Ytpdilplgdbcjpaa
open Go.RowKit Go.Maps Go.WideMaps PRef Go.Proofs.YtpdilplgdbcjpaaW.PrintWords Go.Shelf
set_option linter.unusedVariables false

theorem enc_ba (x : Str) : encStr x = .string (ba x) := rfl
/-- A made row of names reads as one. -/
theorem own_C {w : World} {base : Nat} {v : Value} {l : List Str} (h : w.ownsRow base 9 1 v l.length (l.map encStr)) : ∃ A c, v = .slice A l.length c ∧ l.length ≤ c ∧ Kd.string.C w A (l.map ba).length (l.map ba) := by
  have hR : Kd.string.R 9 w base (fun _ => True) v (l.map ba) := Kd.R_of_own (enc := Value.string) (h1 := fun _ => rfl) (by unfold encs; rw [List.map_map, List.length_map]; exact h) (fun _ _ => trivial)
  obtain ⟨A, c, e, hl, hC⟩ := Kd.R_reads hR
  rw [List.length_map] at e hl
  exact ⟨A, c, e, hl, hC⟩

theorem strKeys_perm {k : TypeId} {R : Value → Option (DataW Value × List MemPlace)} {w : World} {b n : Nat} {D : DataW Value} {S : List Str} (hk : Try.prog.underlying k = some .string) (hown : w.ownsMap Try.prog k R b n D) (h : ∀ x, Maps.has D (.string x) = decide (x ∈ S)) :
    (Gr.canon S).Perm (strKeys D) := by
  obtain ⟨es, hD, hpw, _⟩ := hown.entries (string_keyed hk)
  obtain ⟨es', hD', hko⟩ := hown.keysOf
  obtain rfl : es = es' := by rw [hD] at hD'; simpa using hD'
  subst hD
  exact perm_strKeys hpw (fun p hp => by obtain ⟨v, hv⟩ := hko p hp; obtain ⟨x, _, hx, _⟩ := Maps.keyOf_str hk hv; exact ⟨x, hx⟩) (Gr.canon_up S).nodup (fun x => by rw [h, Gr.mem_canon]; simp)

set_option maxHeartbeats 1000000 in
/-- (names).rising: the set's names in order, in a new row. -/
theorem rising_any (b n : Nat) (S : List Str) (w : World) (hM : SMap Try.prog 9 w b n (mapF S tt)) (hn : n ≤ 4398046511104) :
    Calls Try.prog 25 #[.map (some b)] w fun e w' => ∃ v, e = .returned v ∧ w'.ownsRow w.heap.size 9 1 v (Gr.canon S).length ((Gr.canon S).map encStr) ∧ Below w.heap.size w w' := by
  obtain ⟨D, hown, h2⟩ := hM
  have hsz := ownsMap_size hown
  have hmax : Maps.size D ≤ maxLen := by unfold maxLen; omega
  have hbytes : Maps.size D * 16 ≤ 140737488355328 := by omega
  refine (callsIn_wide (n := 6)).1 ?_
  have hfK : Fence.wide.fn 32 := trivial
  have hfS : Fence.wide.fn 31 := trivial
  refine callsIn_of_wp Try.func25 rfl trivial ?_ rfl
  simp only [Try.ntmps25, List.size_toArray, List.length_cons, List.length_nil, Nat.reduceAdd, Nat.reduceSub, Array.replicate_succ, Array.replicate_zero, List.push_toArray, List.append_toArray, List.nil_append, List.cons_append]
  gi_wp2_with (first
    | (gi_at_call 32; refine (Try.maps_Keys_32 _ _).mono ?_; rintro e w' ⟨rfl, rfl⟩)
    | (gi_at_call 31; refine (Try.slices_Sorted_keys_31_32 b n D rdV w hown hmax hbytes).mono ?_; rintro e w' ⟨v, ss, rfl, hS, hrow, hnil, hb⟩))
  go_ret
  have hp := strKeys_perm (k := 9) Try.underlying9 hown (S := S) (fun x => by rw [smap_has h2, mapF_some])
  have hpp := hS.trans hp.symm
  have he : ss.mergeSort (fun x y => decide (x ≤ y)) = Gr.canon S := Gr.sort_canon (hpp.nodup_iff.2 (Gr.canon_up S).nodup) (fun x => by rw [hpp.mem_iff, Gr.mem_canon])
  rw [he, hpp.length_eq] at hrow
  exact ⟨v, rfl, ownsRow_base_a hrow (by simp), ((Below.refl _ w).alloc (Nat.le_refl _) _).trans (hb.mono (by simp))⟩

/-- At B lies who imports whom. -/
structure GM (w : World) (B : Nat) (g : List Gr.Nd) : Prop where mk ::
  (out : ∃ blk : Str → Nat, ∃ L : Str → List Str, SMap Try.prog 9 w B g.length (mapF (Gr.names g) (fun x => .map (some (blk x)))) ∧
    ∀ x ∈ Gr.names g, SMap Try.prog 9 w (blk x) (L x).length (mapF (L x) tt) ∧ (∀ y, y ∈ L x ↔ y ∈ Gr.impsOf g x) ∧ (L x).length ≤ 4398046511104)
theorem GM.later {w w' : World} {B : Nat} {g : List Gr.Nd} (h : GM w B g) (hb : Below w.heap.size w w') : GM w' B g := by
  obtain ⟨blk, L, h1, h2⟩ := h.out
  exact ⟨⟨blk, L, h1.later hb, fun x hx => ⟨(h2 x hx).1.later hb, (h2 x hx).2⟩⟩⟩
end Go.Proofs.Ytpdilplgdbcjpaa
namespace Go.Proofs.Ytpdilplgdbcjpaa
open Go.RowKit Go.Maps Go.WideMaps PRef Go.Proofs.YtpdilplgdbcjpaaW.PrintWords Go.Shelf
set_option linter.unusedVariables false

theorem zero_bool (w : World) : (zeroValue 4).run Try.prog w = .ok (.bool false) w := by kernel_rfl
theorem zero_names (w : World) : (zeroValue 41).run Try.prog w = .ok (.map none) w := by kernel_rfl
theorem SRange.len {P : Program} {k : TypeId} {w : World} {b r n : Nat} {S : List Str} {g : Str → Value} {ss : List Str} (h : SRange P k w b r n (mapF S g) ss) : ss.length ≤ S.length :=
  Gr.sub_len h.nodup (fun x hx => by have := h.sub x hx; rw [mapF_some] at this; simpa using this)
theorem grown_new {w w' : World} (h : w.grownBy w' none) {B : Nat} {w0 : World} (hb : Below B w0 w) (hB : B ≤ w.heap.size) : Below B w0 w' := hb.grown h hB (fun k hk => by cases hk)
/-- What one asks of a set: is a name in it? -/
theorem set_look {S : List Str} {x : Str} {b : Bool} (h : decide (x ∈ S) = b) : (mapF S tt (ba x).data.toList).getD (.bool false) = .bool b := by rw [ba_toList, setF_get, h]

/-- Between two rounds of ready's outer loop: r: the range; o: the set of those that are ready. -/
structure RdI (w : World) (g : List Gr.Nd) (D : List Str) (B : Nat) (gB : Str → Value) (ss : List Str) (W : World) : Prop where
  rg : SRange Try.prog 9 W B (w.heap.size + 1) g.length (mapF (Gr.names g) gB) ss
  out : SMap Try.prog 9 W w.heap.size ss.length (mapF (ss.filter (Gr.isReady g D)) tt)
  bel : Below w.heap.size w W
theorem RdI.grown {w : World} {g : List Gr.Nd} {D : List Str} {B : Nat} {gB : Str → Value} {ss : List Str} {W W' : World} (h : RdI w g D B gB ss W) (hB : B < w.heap.size) {r : Nat} (hr : w.heap.size + 1 < r) (hg : W.grownBy W' (some r)) : RdI w g D B gB ss W' :=
  ⟨h.rg.kept hg (by intro e; injection e with e; omega) (by intro e; injection e with e; omega), h.out.kept hg (by intro e; injection e with e; omega), h.bel.grown hg h.bel.size (fun k hk => by injection hk with hk; omega)⟩
theorem RdI.new {w : World} {g : List Gr.Nd} {D : List Str} {B : Nat} {gB : Str → Value} {ss : List Str} {W W' : World} (h : RdI w g D B gB ss W) (hg : W.grownBy W' none) : RdI w g D B gB ss W' :=
  ⟨h.rg.kept hg (by simp) (by simp), h.out.kept hg (by simp), grown_new hg h.bel h.bel.size⟩
theorem left_kept {w w' : World} {row : Option Nat} (hg : w.grownBy w' row) {b r : Nat} (hb : b < w.heap.size) (hr : r < w.heap.size) (h1 : some b ≠ row) (h2 : some r ≠ row) : w'.rangeLeft b r = w.rangeLeft b r := by
  simp only [World.rangeLeft, hg.block b hb h1, hg.block r hr h2]
/-- The range has stepped on: x has come; fewer than M are left. -/
structure RdS (w : World) (g : List Gr.Nd) (D : List Str) (B : Nat) (gB : Str → Value) (ss : List Str) (x : Str) (M : Nat) (W : World) : Prop where
  rg : SRange Try.prog 9 W B (w.heap.size + 1) g.length (mapF (Gr.names g) gB) (ss ++ [x])
  out : SMap Try.prog 9 W w.heap.size ss.length (mapF (ss.filter (Gr.isReady g D)) tt)
  bel : Below w.heap.size w W
  lf : W.rangeLeft B (w.heap.size + 1) < M
section
variable {w : World} {g : List Gr.Nd} {D : List Str} {B : Nat} {gB : Str → Value} {ss : List Str} {x : Str} {M : Nat} {W W' : World}
theorem RdI.step (h : RdI w g D B gB ss W) (hr : SRange Try.prog 9 W' B (w.heap.size + 1) g.length (mapF (Gr.names g) gB) (ss ++ [x])) (hg : W.grownBy W' (some (w.heap.size + 1))) (hl : W'.rangeLeft B (w.heap.size + 1) < M) : RdS w g D B gB ss x M W' :=
  ⟨hr, h.out.kept hg (by intro e; injection e with e; omega), h.bel.grown hg h.bel.size (fun k hk => by injection hk with hk; omega), hl⟩
theorem RdS.grown (h : RdS w g D B gB ss x M W) (hB : B < w.heap.size) {r : Nat} (hr : w.heap.size + 1 < r) (hg : W.grownBy W' (some r)) : RdS w g D B gB ss x M W' :=
  ⟨h.rg.kept hg (by intro e; injection e with e; omega) (by intro e; injection e with e; omega), h.out.kept hg (by intro e; injection e with e; omega), h.bel.grown hg h.bel.size (fun k hk => by injection hk with hk; omega),
    by rw [left_kept hg h.rg.map.lt h.rg.lt (by intro e; injection e with e; omega) (by intro e; injection e with e; omega)]; exact h.lf⟩
theorem RdS.new (h : RdS w g D B gB ss x M W) (hg : W.grownBy W' none) : RdS w g D B gB ss x M W' :=
  ⟨h.rg.kept hg (by simp) (by simp), h.out.kept hg (by simp), grown_new hg h.bel h.bel.size, by rw [left_kept hg h.rg.map.lt h.rg.lt (by simp) (by simp)]; exact h.lf⟩
theorem RdS.not (h : RdS w g D B gB ss x M W) (hx : Gr.isReady g D x = false) : RdI w g D B gB (ss ++ [x]) W :=
  ⟨h.rg, by rw [show (ss ++ [x]).filter (Gr.isReady g D) = ss.filter (Gr.isReady g D) by simp [hx]]; exact h.out.mono (by rw [List.length_append]; omega), h.bel⟩
theorem RdS.put (h : RdS w g D B gB ss x M W) (hB : B < w.heap.size) (hx : Gr.isReady g D x = true)
    (hm : SMap Try.prog 9 W' w.heap.size (ss.length + 1) (fun y => if y = (ba x).data.toList then some (.bool true) else mapF (ss.filter (Gr.isReady g D)) tt y)) (hg : W.grownBy W' (some w.heap.size)) : RdI w g D B gB (ss ++ [x]) W' ∧ W'.rangeLeft B (w.heap.size + 1) < M := by
  refine ⟨⟨h.rg.kept hg (by intro e; injection e with e; omega) (by intro e; injection e with e; omega), ?_, h.bel.grown hg h.bel.size (fun k hk => by injection hk with hk; omega)⟩, by rw [left_kept hg h.rg.map.lt h.rg.lt (by intro e; injection e with e; omega) (by intro e; injection e with e; omega)]; exact h.lf⟩
  rw [ba_toList, setF_put] at hm
  rw [mapF_set (T := (ss ++ [x]).filter (Gr.isReady g D)) (fun y => by rw [List.filter_append]; simp [hx, or_comm])] at hm
  rw [List.length_append, List.length_singleton]
  exact hm
end

set_option maxRecDepth 100000 in
set_option maxHeartbeats 4000000 in
theorem ready_any (g : List Gr.Nd) (D : List Str) (B b n : Nat) (w : World) (hG : GM w B g) (hD : SMap Try.prog 9 w b n (mapF D tt)) (hg : g.length ≤ big) :
    Calls Try.prog 24 #[.map (some B), .map (some b)] w fun e w' => ∃ v, e = .returned v ∧ w'.ownsRow w.heap.size 9 1 v (Gr.readyL g D).length ((Gr.readyL g D).map encStr) ∧ Below w.heap.size w w' := by
  obtain ⟨blk, L, hA, hL⟩ := hG.out
  have hB : B < w.heap.size := hA.lt
  have hW1 : (w.alloc (.map #[] 0)).heap.size = w.heap.size + 1 := World.size_alloc _ _
  have hA0 := Lib.hid hA
  have HL := Lib.hid hL
  have HD := Lib.hid hD
  have hmm := @run_makeMap Try.prog
  go_enter Try.func24, Try.ntmps24
  go_wp2_with (fail)
  refine wp_scope_straight ?_
  go_wp2_with (fail)
  refine wp_label ?_
  go_wp2_with (first
    | (at_range; refine wpList_range_smap rfl _ 38 rfl 9 41 Try.underlying9 Try.underlying38 B _ _ rfl (hA.alloc _) ?_; intro w1 hr1 hg1 hs1)
    | go_in)
  go_frame
  rw [hW1]
  rw [hW1] at hr1
  have HI : Hid (RdI w g D B (fun x => .map (some (blk x))) [] w1) := Lib.hid ⟨hr1, by
    have h0 := (SMap.made (P := Try.prog) (k := 9) w).kept hg1 (by simp)
    rw [mapF_nil tt] at h0
    exact h0, grown_new hg1 (bel_alloc (Below.refl _ _) _) (by omega)⟩
  clear hr1 hg1 hs1
  go_loopw [6] (fun _ wr => ∃ ss, Hid (RdI w g D B (fun x => .map (some (blk x))) ss wr)) (fun _ wr => wr.rangeLeft B (w.heap.size + 1))
  case atStart => exact ⟨[], HI⟩
  case round =>
    obtain ⟨ss, HR⟩ := hrel
    go_wp2_with (first
      | (at_next; refine wpList_next_smap rfl _ rfl 9 Try.underlying9 B (w.heap.size + 1) _ _ _ _ rfl HR.out.rg ?_ ?_)
      | go_in)
    · intro hall
      have hlen := HR.out.rg.len
      rw [names_len] at hlen
      go_wp2_with (go_at_call 25; refine (rising_any _ _ _ _ HR.out.out (by unfold big at hg; omega)).mono ?_; rintro e w' ⟨v, rfl, hv, hb⟩)
      rw [Exit.noGoto_ret]
      go_ret
      have he : Gr.canon (ss.filter (Gr.isReady g D)) = Gr.readyL g D := Gr.canon_eq (fun y => by rw [List.mem_filter, List.mem_filter, hall y])
      rw [he] at hv
      exact ⟨v, rfl, ownsRow_base_a hv HR.out.bel.size, HR.out.bel.trans (hb.mono HR.out.bel.size)⟩
    · intro x w2 hxS hxss hxl hrg2 hlt hg2 hs2 hen
      clear hs2
      obtain ⟨M, HM⟩ : ∃ M, Hid (wr.rangeLeft B (w.heap.size + 1) = M) := ⟨_, Lib.hid rfl⟩
      have HS := Lib.hid (HR.out.step (M := M) hrg2 hg2 (by rw [← HM.out]; exact hlt))
      have HX := Lib.hid (And.intro hxS hxss)
      have hxb : (ba x).size ≤ maxLen := by show x.toArray.size ≤ maxLen; rw [List.size_toArray]; exact hxl
      clear hrg2 hg2 hlt HR hxl hxS hxss
      by_cases hd : x ∈ D
      · have hd1 := set_look (b := true) (decide_eq_true hd)
        have hx : Gr.isReady g D x = false := by simp [Gr.isReady, hd]
        go_wp2_with (first
          | (at_lookup; refine wpList_look_smap rfl _ _ 41 rfl 9 4 Try.underlying9 Try.underlying41 b n (mapF D tt) rfl (HD.out.later HS.out.bel) (zero_bool _) (ba x) hxb (.bool true) rfl hd1 ?_; go_frame)
          | go_in)
        go_roundw
        case rel => exact ⟨_, Lib.hid (HS.out.not hx)⟩
        case measure => rw [HM.out]; exact HS.out.lf
      · have hd1 := set_look (b := false) (decide_eq_false hd)
        have hLx := (HL.out x HX.out.1).1
        have HLe := Lib.hid (HL.out x HX.out.1).2.1
        have hr2 : w.heap.size + 1 < w2.heap.size := HS.out.rg.lt
        have hbx := hLx.lt
        go_wp2_with (first
          | (at_lookup; refine wpList_look_smap rfl _ _ 41 rfl 9 4 Try.underlying9 Try.underlying41 b n (mapF D tt) rfl (HD.out.later HS.out.bel) (zero_bool _) (ba x) hxb (.bool false) rfl hd1 ?_; go_frame)
          | (at_range; refine wpList_range_smap rfl _ 41 rfl 9 4 Try.underlying9 Try.underlying41 (blk x) _ _ rfl (hLx.later HS.out.bel) ?_; intro w3 hr3 hg3 hs3; go_frame)
          | go_in)
        have HS3 := Lib.hid (HS.out.new hg3)
        have HR3 := Lib.hid hr3
        generalize w2.heap.size = r2 at *
        clear hr3 hg3 hs3 HS
        go_loopw [8] (fun _ wr => ∃ tt2, Hid (RdS w g D B (fun x => .map (some (blk x))) ss x M wr) ∧ Hid (SRange Try.prog 9 wr (blk x) r2 (L x).length (mapF (L x) tt) tt2) ∧ Hid (∀ y ∈ tt2, y ∈ D)) (fun _ wr => wr.rangeLeft (blk x) r2)
        case atStart => exact ⟨[], HS3, HR3, Lib.hid (by simp)⟩
        case round =>
          obtain ⟨tt2, HS4, HR4, HA⟩ := hrel
          go_wp2_with (first
            | (at_next; refine wpList_next_smap rfl _ rfl 9 Try.underlying9 (blk x) r2 _ _ _ _ rfl HR4.out ?_ ?_)
            | go_in)
          · intro hall
            have hx : Gr.isReady g D x = true := by
              simp only [Gr.isReady, Bool.and_eq_true, decide_eq_true_eq, List.all_eq_true]
              exact ⟨hd, fun y hy => HA.out y ((hall y).2 ((HLe.out y).2 hy))⟩
            have hlen := HS4.out.rg.len
            rw [names_len, List.length_append, List.length_singleton] at hlen
            go_wp2_with (first
              | (at_mapUpdate; refine wpList_put_smap rfl _ _ _ 41 rfl 9 4 Try.underlying9 Try.underlying41 w.heap.size ss.length _ rfl HS4.out.out (by unfold big at hg; unfold maxLen; omega) (ba x) hxb (.bool true) rfl rfl ?_; intro w5 hm5 hg5; go_frame)
              | go_in)
            have HE := HS4.out.put hB hx hm5 hg5
            go_roundw
            case rel => exact ⟨_, Lib.hid HE.1⟩
            case measure => rw [HM.out]; exact HE.2
          · intro y w5 hyS hyss hyl hrg5 hlt5 hg5 hs5 hen5
            clear hs5
            have HS5 := Lib.hid (HS4.out.grown hB hr2 hg5)
            have HR5 := Lib.hid hrg5
            have HL5 := Lib.hid hlt5
            have hyb : (ba y).size ≤ maxLen := by show y.toArray.size ≤ maxLen; rw [List.size_toArray]; exact hyl
            clear hrg5 hlt5 hg5 hyss hyl
            by_cases hdy : y ∈ D
            · have hd2 := set_look (b := true) (decide_eq_true hdy)
              go_wp2_with (first
                | (at_lookup; refine wpList_look_smap rfl _ _ 41 rfl 9 4 Try.underlying9 Try.underlying41 b n (mapF D tt) rfl (HD.out.later HS5.out.bel) (zero_bool _) (ba y) hyb (.bool true) rfl hd2 ?_; go_frame)
                | go_in)
              go_roundw
              case rel => exact ⟨_, HS5, HR5, Lib.hid (fun z hz => by
                rcases List.mem_append.1 hz with h | h
                · exact HA.out z h
                · rw [List.mem_singleton.1 h]; exact hdy)⟩
              case measure => exact HL5.out
            · have hd2 := set_look (b := false) (decide_eq_false hdy)
              have hx : Gr.isReady g D x = false := by
                cases hq : Gr.isReady g D x
                · rfl
                · simp only [Gr.isReady, Bool.and_eq_true, decide_eq_true_eq, List.all_eq_true] at hq
                  exact absurd (hq.2 y ((HLe.out y).1 hyS)) hdy
              go_wp2_with (first
                | (at_lookup; refine wpList_look_smap rfl _ _ 41 rfl 9 4 Try.underlying9 Try.underlying41 b n (mapF D tt) rfl (HD.out.later HS5.out.bel) (zero_bool _) (ba y) hyb (.bool false) rfl hd2 ?_; go_frame)
                | go_in)
              go_roundw
              case rel => exact ⟨_, Lib.hid (HS5.out.not hx)⟩
              case measure => rw [HM.out]; exact HS5.out.lf
end Go.Proofs.Ytpdilplgdbcjpaa
namespace Go.Proofs.Ytpdilplgdbcjpaa
open Go.RowKit Go.Maps Go.WideMaps PRef Go.Proofs.YtpdilplgdbcjpaaW.PrintWords Go.Shelf
set_option linter.unusedVariables false

theorem map_in {S : List Str} {g : Str → Value} {x : Str} (z : Value) (h : x ∈ S) : (mapF S g (ba x).data.toList).getD z = g x := by rw [ba_toList, mapF_in h]; rfl
theorem map_out {S : List Str} {g : Str → Value} {x : Str} (z : Value) (h : x ∉ S) : (mapF S g (ba x).data.toList).getD z = z := by rw [ba_toList, mapF_out h]; rfl
/-- What the model bears of a node. -/
def NdOk (d : Gr.Nd) : Prop := d.name.length ≤ maxLen ∧ d.imps.length ≤ big ∧ ∀ i ∈ d.imps, i.length ≤ maxLen
theorem ba_size {x : Str} (h : x.length ≤ maxLen) : (ba x).size ≤ maxLen := by show x.toArray.size ≤ maxLen; rw [List.size_toArray]; exact h
/-- A node as it lies in a row: its imports' slice. -/
structure RN where
  nd : Gr.Nd
  A : Option Addr
  c : Nat
def rnC (r : RN) : List Value := [.string (ba r.nd.name), .slice r.A r.nd.imps.length r.c]
def RNok (w : World) (r : RN) : Prop := r.nd.imps.length ≤ r.c ∧ Kd.string.C w r.A (r.nd.imps.map ba).length (r.nd.imps.map ba)
theorem rnC_len (l : List RN) : (l.flatMap rnC).length = l.length * 2 := by
  induction l with
  | nil => rfl
  | cons x l ih => simp [rnC, ih]; omega
theorem rnC_snoc (l : List RN) (x : RN) : (l ++ [x]).flatMap rnC = l.flatMap rnC ++ rnC x := by simp
theorem rnC_at : ∀ (l : List RN) (k : Nat) (x : RN), l[k]? = some x → (l.flatMap rnC)[k * 2]? = some (.string (ba x.nd.name)) ∧ (l.flatMap rnC)[k * 2 + 1]? = some (.slice x.A x.nd.imps.length x.c)
  | [], k, x, h => by simp at h
  | a :: r, 0, x, h => by
    have e : a = x := by simpa using h
    subst e
    simp [rnC]
  | a :: r, k + 1, x, h => by
    have ih := rnC_at r k x (by simpa using h)
    rw [List.flatMap_cons, show (k + 1) * 2 = k * 2 + 2 by omega, show k * 2 + 2 + 1 = (k * 2 + 1) + 2 by omega]
    simp only [rnC, List.cons_append, List.nil_append, List.getElem?_cons_succ]
    exact ih

/-- Behind k nodes of the first loop. -/
structure ImI (w : World) (l : List Gr.Nd) (k : Nat) (v : Value) (rns : List RN) (blk : Str → Nat) (W : World) : Prop where
  kl : k ≤ l.length
  nd : rns.map (·.nd) = Gr.nodes (l.take k)
  ok : ∀ r ∈ rns, RNok w r
  row : W.ownsRow w.heap.size 36 2 v rns.length (rns.flatMap rnC)
  map : SMap Try.prog 9 W w.heap.size rns.length (mapF (Gr.names (Gr.nodes (l.take k))) (fun x => .map (some (blk x))))
  sub : ∀ x ∈ Gr.names (Gr.nodes (l.take k)), SMap Try.prog 9 W (blk x) 0 (mapF [] tt) ∧ w.heap.size < blk x
  inj : ∀ x ∈ Gr.names (Gr.nodes (l.take k)), ∀ y ∈ Gr.names (Gr.nodes (l.take k)), blk x = blk y → x = y
  bel : Below w.heap.size w W
theorem smap_row {P : Program} {k : TypeId} {W W' : World} {b n : Nat} {f : Str → Option Value} {base : Nat} {e : TypeId} {size m : Nat} {v : Value} {xs : List Value} (h : SMap P k W b n f) (hr : W.ownsRow base e size v m xs) : some b ≠ v.ownBlock := by
  obtain ⟨es, clock, hb⟩ := h.not_cells
  exact fun he => own_ne hr hb (fun cs f => by simp) he.symm
theorem ImI.new {w : World} {l : List Gr.Nd} {k : Nat} {v : Value} {rns : List RN} {blk : Str → Nat} {W W' : World} (h : ImI w l k v rns blk W) (hb : Below W.heap.size W W') : ImI w l k v rns blk W' :=
  ⟨h.kl, h.nd, h.ok, own_later h.row hb, h.map.later hb, fun x hx => ⟨(h.sub x hx).1.later hb, (h.sub x hx).2⟩, h.inj, h.bel.trans (hb.mono h.bel.size)⟩
theorem ImI.pass {w : World} {l : List Gr.Nd} {k : Nat} {v : Value} {rns : List RN} {blk : Str → Nat} {W : World} (h : ImI w l k v rns blk W) {d : Gr.Nd} (hd : l[k]? = some d) (hm : d.name ∈ Gr.names (Gr.nodes (l.take k))) : ImI w l (k + 1) v rns blk W := by
  have e : Gr.nodes (l.take (k + 1)) = Gr.nodes (l.take k) := by rw [nodes_take hd, if_pos hm]
  exact ⟨lt_len hd, by rw [e]; exact h.nd, h.ok, h.row, by rw [e]; exact h.map, by rw [e]; exact h.sub, by rw [e]; exact h.inj, h.bel⟩
theorem names_snoc (g : List Gr.Nd) (d : Gr.Nd) (x : Str) : x ∈ Gr.names (g ++ [d]) ↔ x = d.name ∨ x ∈ Gr.names g := by simp [Gr.names, or_comm]
/-- A new node: the map's new entry (a new set at m), then the row's new element. -/
theorem ImI.put {w : World} {l : List Gr.Nd} {k : Nat} {v v' : Value} {rns : List RN} {blk : Str → Nat} {W W1 W2 W3 : World} (h : ImI w l k v rns blk W) {d : Gr.Nd} (hd : l[k]? = some d) (hm : d.name ∉ Gr.names (Gr.nodes (l.take k)))
    {r : RN} (hr : r.nd = d) (hrok : RNok w r) {m : Nat} (hm1 : W.heap.size ≤ m) (hW1 : Below W.heap.size W W1) (hs : SMap Try.prog 9 W1 m 0 (mapF [] tt))
    (hmap : SMap Try.prog 9 W2 w.heap.size (rns.length + 1) (fun x => if x = (ba d.name).data.toList then some (.map (some m)) else mapF (Gr.names (Gr.nodes (l.take k))) (fun x => .map (some (blk x))) x)) (hg1 : W1.grownBy W2 (some w.heap.size))
    (hrow : W3.ownsRow w.heap.size 36 2 v' (rns.length + 1) (rns.flatMap rnC ++ rnC r)) (hg2 : W2.grownBy W3 v.ownBlock) : ImI w l (k + 1) v' (rns ++ [r]) (fun x => if x = d.name then m else blk x) W3 := by
  have e : Gr.nodes (l.take (k + 1)) = Gr.nodes (l.take k) ++ [d] := by rw [nodes_take hd, if_neg hm]
  have hlt := h.map.lt
  have hrow1 : W1.ownsRow w.heap.size 36 2 v rns.length (rns.flatMap rnC) := own_later h.row hW1
  have hne := smap_row (W' := W) h.map h.row
  have hrow2 : W2.ownsRow w.heap.size 36 2 v rns.length (rns.flatMap rnC) := own_kept hrow1 fun g hg => hg1.block g (hrow1.lt g hg).2 (fun e => hne (by rw [hg, ← e]))
  have hk : ∀ {b n f}, SMap Try.prog 9 W1 b n f → b ≠ w.heap.size → SMap Try.prog 9 W3 b n f := fun hh hb =>
    ((hh.kept hg1 (fun e => hb (by injection e))).kept hg2 (smap_row (W' := W) (hh.kept hg1 (fun e => hb (by injection e))) hrow2))
  have hbel2 : Below w.heap.size w W2 := (h.bel.trans (hW1.mono h.bel.size)).grown hg1 (Nat.le_trans h.bel.size hW1.size) (fun k hk => by injection hk with hk; omega)
  refine ⟨lt_len hd, by rw [e, List.map_append, h.nd]; simp [hr], ?_, by rw [List.length_append, rnC_snoc]; exact hrow, ?_, ?_, ?_, hbel2.grown hg2 hbel2.size (own_base hrow2)⟩
  · intro q hq
    rcases List.mem_append.1 hq with hq | hq
    · exact h.ok q hq
    · rw [List.mem_singleton.1 hq]; exact hrok
  · rw [e, List.length_append, List.length_singleton]
    rw [ba_toList] at hmap
    rw [mapF_put (h := fun x => .map (some (if x = d.name then m else blk x))) (by simp) (fun x hx => by simp [hx])] at hmap
    rw [mapF_set (T := Gr.names (Gr.nodes (l.take k) ++ [d])) (fun x => by rw [names_snoc, List.mem_cons])] at hmap
    exact hmap.kept hg2 (smap_row (W' := W) hmap hrow2)
  · intro x hx
    rw [e, names_snoc] at hx
    by_cases hxd : x = d.name
    · rw [if_pos hxd]
      exact ⟨hk hs (by omega), by omega⟩
    · rw [if_neg hxd]
      have hx2 := hx.resolve_left hxd
      have h3 := h.sub x hx2
      exact ⟨hk (h3.1.later hW1) (by omega), h3.2⟩
  · intro x hx y hy hxy
    rw [e, names_snoc] at hx hy
    have hlb : ∀ z ∈ Gr.names (Gr.nodes (l.take k)), blk z < m := fun z hz => Nat.lt_of_lt_of_le (h.sub z hz).1.lt hm1
    by_cases hxd : x = d.name
    · by_cases hyd : y = d.name
      · rw [hxd, hyd]
      · rw [if_pos hxd, if_neg hyd] at hxy
        have := hlb y (hy.resolve_left hyd)
        omega
    · by_cases hyd : y = d.name
      · rw [if_neg hxd, if_pos hyd] at hxy
        have := hlb x (hx.resolve_left hxd)
        omega
      · rw [if_neg hxd, if_neg hyd] at hxy
        exact h.inj x (hx.resolve_left hxd) y (hy.resolve_left hyd) hxy

/-- The imports that stand in node k's set behind i nodes and j imports of node i. -/
def impPart (g : List Gr.Nd) (i j k : Nat) (d : Gr.Nd) : List Str := if k < i then (d.imps.filter (fun y => decide (y ∈ Gr.names g))).reverse else if k = i then ((d.imps.take j).filter (fun y => decide (y ∈ Gr.names g))).reverse else []
/-- Behind i nodes of the second loop, and j imports of the next one. -/
structure ImJ (w : World) (g : List Gr.Nd) (i j : Nat) (v : Value) (rns : List RN) (blk : Str → Nat) (W : World) : Prop where
  nd : rns.map (·.nd) = g
  nn : (Gr.names g).Nodup
  ok : ∀ r ∈ rns, RNok w r
  row : W.ownsRow w.heap.size 36 2 v rns.length (rns.flatMap rnC)
  map : SMap Try.prog 9 W w.heap.size rns.length (mapF (Gr.names g) (fun x => .map (some (blk x))))
  sub : ∃ Q : Str → List Str, (∀ x ∈ Gr.names g, SMap Try.prog 9 W (blk x) (Q x).length (mapF (Q x) tt) ∧ w.heap.size < blk x) ∧ ∀ k d, g[k]? = some d → Q d.name = impPart g i j k d
  inj : ∀ x ∈ Gr.names g, ∀ y ∈ Gr.names g, blk x = blk y → x = y
  bel : Below w.heap.size w W
theorem ImI.turn {w : World} {l : List Gr.Nd} {v : Value} {rns : List RN} {blk : Str → Nat} {W : World} (h : ImI w l l.length v rns blk W) : ImJ w (Gr.nodes l) 0 0 v rns blk W := by
  obtain ⟨h1, h2, h3, h4, h5, h6, h7, h8⟩ := h
  rw [List.take_length] at h2 h5 h6 h7
  refine ⟨h2, Gr.nodes_nodup l, h3, h4, h5, ⟨fun _ => [], h6, fun k d hk => ?_⟩, h7, h8⟩
  unfold impPart
  rw [if_neg (by omega)]
  split <;> simp
theorem ImJ.new {w : World} {g : List Gr.Nd} {i j : Nat} {v : Value} {rns : List RN} {blk : Str → Nat} {W W' : World} (h : ImJ w g i j v rns blk W) (hb : Below W.heap.size W W') : ImJ w g i j v rns blk W' := by
  obtain ⟨Q, q1, q2⟩ := h.sub
  exact ⟨h.nd, h.nn, h.ok, own_later h.row hb, h.map.later hb, ⟨Q, fun x hx => ⟨(q1 x hx).1.later hb, (q1 x hx).2⟩, q2⟩, h.inj, h.bel.trans (hb.mono h.bel.size)⟩
theorem ImJ.next {w : World} {g : List Gr.Nd} {i : Nat} {v : Value} {rns : List RN} {blk : Str → Nat} {W : World} {d : Gr.Nd} (hd : g[i]? = some d) (h : ImJ w g i d.imps.length v rns blk W) : ImJ w g (i + 1) 0 v rns blk W := by
  obtain ⟨Q, q1, q2⟩ := h.sub
  refine ⟨h.nd, h.nn, h.ok, h.row, h.map, ⟨Q, q1, fun k e hk => ?_⟩, h.inj, h.bel⟩
  rw [q2 k e hk]
  unfold impPart
  by_cases h1 : k < i
  · rw [if_pos h1, if_pos (by omega)]
  · rw [if_neg h1]
    by_cases h2 : k = i
    · subst h2
      obtain rfl : d = e := by rw [hd] at hk; exact Option.some.inj hk
      rw [if_pos rfl, if_pos (by omega), List.take_length]
    · rw [if_neg h2, if_neg (by omega)]
      split <;> simp
theorem ImJ.skip {w : World} {g : List Gr.Nd} {i j : Nat} {v : Value} {rns : List RN} {blk : Str → Nat} {W : World} {d : Gr.Nd} {y : Str} (hd : g[i]? = some d) (hy : d.imps[j]? = some y) (hn : y ∉ Gr.names g) (h : ImJ w g i j v rns blk W) : ImJ w g i (j + 1) v rns blk W := by
  obtain ⟨Q, q1, q2⟩ := h.sub
  refine ⟨h.nd, h.nn, h.ok, h.row, h.map, ⟨Q, q1, fun k e hk => ?_⟩, h.inj, h.bel⟩
  rw [q2 k e hk]
  unfold impPart
  by_cases h2 : k = i
  · subst h2
    obtain rfl : d = e := by rw [hd] at hk; exact Option.some.inj hk
    rw [take_at hy, List.filter_append]
    simp [hn]
  · rw [if_neg h2, if_neg h2]
theorem name_mem {g : List Gr.Nd} {i : Nat} {d : Gr.Nd} (hd : g[i]? = some d) : d.name ∈ Gr.names g := List.mem_map.2 ⟨d, List.mem_of_getElem? hd, rfl⟩
theorem name_at {g : List Gr.Nd} (hn : (Gr.names g).Nodup) {i k : Nat} {d e : Gr.Nd} (hd : g[i]? = some d) (hk : g[k]? = some e) (h : e.name = d.name) : k = i := by
  have h1 : (Gr.names g)[i]? = some d.name := by unfold Gr.names; rw [List.getElem?_map, hd]; rfl
  have h2 : (Gr.names g)[k]? = some d.name := by unfold Gr.names; rw [List.getElem?_map, hk, ← h]; rfl
  have l1 := lt_len h1
  have l2 := lt_len h2
  have e1 := (List.getElem?_eq_some_iff.1 h1).2
  have e2 := (List.getElem?_eq_some_iff.1 h2).2
  exact (List.getElem_inj (h₀ := l2) (h₁ := l1) hn).1 (e2.trans e1.symm)
/-- What the current node's set holds. -/
theorem ImJ.cur {w : World} {g : List Gr.Nd} {i j : Nat} {v : Value} {rns : List RN} {blk : Str → Nat} {W : World} {d : Gr.Nd} (hd : g[i]? = some d) (h : ImJ w g i j v rns blk W) :
    SMap Try.prog 9 W (blk d.name) (impPart g i j i d).length (mapF (impPart g i j i d) tt) ∧ (impPart g i j i d).length ≤ d.imps.length := by
  obtain ⟨Q, q1, q2⟩ := h.sub
  have h1 := (q1 d.name (name_mem hd)).1
  rw [q2 i d hd] at h1
  refine ⟨h1, ?_⟩
  unfold impPart
  rw [if_neg (by omega), if_pos rfl, List.length_reverse]
  exact Nat.le_trans (List.length_filter_le _ _) (by rw [List.length_take]; omega)
theorem ImJ.put {w : World} {g : List Gr.Nd} {i j : Nat} {v : Value} {rns : List RN} {blk : Str → Nat} {W W' : World} {d : Gr.Nd} {y : Str} (hd : g[i]? = some d) (hy : d.imps[j]? = some y) (hn : y ∈ Gr.names g) (h : ImJ w g i j v rns blk W)
    (hm : SMap Try.prog 9 W' (blk d.name) ((impPart g i j i d).length + 1) (fun x => if x = (ba y).data.toList then some (.bool true) else mapF (impPart g i j i d) tt x)) (hg : W.grownBy W' (some (blk d.name))) : ImJ w g i (j + 1) v rns blk W' := by
  obtain ⟨Q, q1, q2⟩ := h.sub
  have hb := (q1 d.name (name_mem hd)).2
  have hs := (q1 d.name (name_mem hd)).1
  have hne := smap_row (W' := W) hs h.row
  have hpart : impPart g i (j + 1) i d = y :: impPart g i j i d := by
    unfold impPart
    rw [if_neg (by omega), if_pos rfl, if_neg (by omega), if_pos rfl, take_at hy, List.filter_append]
    simp [hn]
  rw [ba_toList, setF_put, ← hpart] at hm
  refine ⟨h.nd, h.nn, h.ok, own_kept h.row fun b hb' => hg.block b (h.row.lt b hb').2 (fun e => hne (by rw [hb', ← e])), h.map.kept hg (by intro e; injection e with e; omega), ⟨fun x => if x = d.name then impPart g i (j + 1) i d else Q x, fun x hx => ?_, fun k e hk => ?_⟩, h.inj, h.bel.grown hg h.bel.size (fun k hk => by injection hk with hk; omega)⟩
  · by_cases hxd : x = d.name
    · subst hxd
      simp only [if_true]
      exact ⟨by rw [hpart] at hm ⊢; exact hm, hb⟩
    · simp only [if_neg hxd]
      exact ⟨(q1 x hx).1.kept hg (by intro e; injection e with e; exact hxd (h.inj x hx d.name (name_mem hd) e)), (q1 x hx).2⟩
  · by_cases he : e.name = d.name
    · obtain rfl := name_at h.nn hd hk he
      obtain rfl : d = e := by rw [hd] at hk; exact Option.some.inj hk
      simp
    · simp only [if_neg he]
      rw [q2 k e hk]
      unfold impPart
      have h2 : k ≠ i := by rintro rfl; rw [hd] at hk; exact he (by rw [Option.some.inj hk])
      rw [if_neg h2, if_neg h2]
theorem ImJ.gm {w : World} {g : List Gr.Nd} {v : Value} {rns : List RN} {blk : Str → Nat} {W : World} (h : ImJ w g g.length 0 v rns blk W) (hok : ∀ d ∈ g, NdOk d) : GM W w.heap.size g := by
  obtain ⟨Q, q1, q2⟩ := h.sub
  have hl : rns.length = g.length := by rw [← h.nd, List.length_map]
  refine ⟨⟨blk, Q, by rw [← hl]; exact h.map, fun x hx => ?_⟩⟩
  obtain ⟨d, hd, rfl⟩ := List.mem_map.1 hx
  obtain ⟨k, hk, hkd⟩ := List.mem_iff_getElem.1 hd
  have hq := q2 k d (by rw [List.getElem?_eq_getElem hk, hkd])
  have e : Q d.name = (d.imps.filter (fun y => decide (y ∈ Gr.names g))).reverse := by rw [hq]; unfold impPart; rw [if_pos hk]
  refine ⟨(q1 _ hx).1, fun y => ?_, ?_⟩
  · rw [e, List.mem_reverse, Gr.impsOf_node h.nn hd]
  · rw [e, List.length_reverse]
    have h1 := List.length_filter_le (fun y => decide (y ∈ Gr.names g)) d.imps
    have h2 := (hok d hd).2.1
    unfold big at h2
    omega
end Go.Proofs.Ytpdilplgdbcjpaa
namespace Go.Proofs.Ytpdilplgdbcjpaa
open Go.RowKit Go.Maps Go.WideMaps PRef Go.Proofs.YtpdilplgdbcjpaaW.PrintWords Go.Shelf
set_option linter.unusedVariables false
theorem C_node {w : World} {A : Option Addr} {l : List Gr.Nd} (hC : Kd.C k36 w A (l.map ofNd).length (l.map ofNd)) {k : Nat} {d : Gr.Nd} (hd : l[k]? = some d) :
    ∃ ad A1 c1, A = some ad ∧ w.cell? (ad.add (k * 2)) = some (.string (ba d.name)) ∧ w.cell? ⟨(ad.add (k * 2)).block, (ad.add (k * 2)).off + 1, none⟩ = some (.slice A1 d.imps.length c1) ∧ RNok w ⟨d, A1, c1⟩ := by
  obtain ⟨ad, A1, c1, e, x0, x1, g0, g1⟩ := at_T36 hC (k : Int) (by omega) (by have := lt_len hd; rw [List.length_map]; omega)
  rw [rdN hd, Int.toNat_natCast] at x0 x1
  rw [rdN hd] at g0 g1
  simp only [ofNd, List.length_map] at x0 x1 g0
  exact ⟨ad, A1, c1, e, x0, x1, g0, g1⟩

theorem box_kept {W W5 : World} {cs : Array Value} {t : TypeId} {o : Obj} {b : Nat} (hg : ((W.alloc (.cells cs t)).alloc o).grownBy W5 (some b)) (hb : b < W.heap.size) : W5.heap[W.heap.size]? = some (.cells cs t (0, 0)) :=
  (hg.block W.heap.size (by simp; omega) (by intro e; injection e with e; omega)).trans (blk_alloc (blk_new W (.cells cs t)) o)
theorem row_kept5 {w : World} {l : List Gr.Nd} {k : Nat} {v : Value} {rns : List RN} {blk : Str → Nat} {W W' : World} (h : ImI w l k v rns blk W) (hg : W.grownBy W' (some w.heap.size)) : W'.ownsRow w.heap.size 36 2 v rns.length (rns.flatMap rnC) :=
  own_kept h.row fun g hg' => hg.block g (h.row.lt g hg').2 (fun e => smap_row (W' := W) h.map h.row (by rw [hg', ← e]))
theorem row_shape {W : World} {base : Nat} {e : TypeId} {A : Option Addr} {n c : Nat} {xs : List Value} {size : Nat} (h : W.ownsRow base e size (.slice A n c) n xs) (hn : 0 < n) : ∃ gb, A = some ⟨gb, 0, none⟩ := by
  rcases h.2 with ⟨h1, h2⟩ | ⟨g, cap, cur, h1, _⟩
  · omega
  · injection h1 with h1 _ _
    exact ⟨g, h1⟩
theorem row_cells {W : World} {base : Nat} {e : TypeId} {gb c : Nat} {rns : List RN} (h : W.ownsRow base e 2 (.slice (some ⟨gb, 0, none⟩) rns.length c) rns.length (rns.flatMap rnC)) {k : Nat} {r : RN} (hr : rns[k]? = some r) :
    W.cell? ⟨gb, k * 2, none⟩ = some (.string (ba r.nd.name)) ∧ W.cell? ⟨gb, k * 2 + 1, none⟩ = some (.slice r.A r.nd.imps.length r.c) := by
  have hk := lt_len hr
  obtain ⟨h1, h2⟩ := rnC_at rns k r hr
  exact ⟨by rw [h.cellAt (k * 2) (by omega)]; exact h1, by rw [h.cellAt (k * 2 + 1) (by omega)]; exact h2⟩
theorem nil_eqS (b : Nat) (w : World) : (binOp .eql 41 (.map (some b)) (.map none)).run Try.prog w = .ok (.bool false) w := by kernel_rfl
theorem nil_eqN (w : World) : (binOp .eql 41 (.map none) (.map none)).run Try.prog w = .ok (.bool true) w := by kernel_rfl
theorem nil_neS (b : Nat) (w : World) : (binOp .neq 41 (.map (some b)) (.map none)).run Try.prog w = .ok (.bool true) w := by kernel_rfl
theorem nil_neN (w : World) : (binOp .neq 41 (.map none) (.map none)).run Try.prog w = .ok (.bool false) w := by kernel_rfl

set_option maxRecDepth 100000 in
set_option maxHeartbeats 4000000 in
theorem imports_any (l : List Gr.Nd) (A : Option Addr) (c : Nat) (w0 w : World) (hC : Kd.C k36 w0 A (l.map ofNd).length (l.map ofNd)) (hbw : Below w0.heap.size w0 w) (hc : l.length ≤ c) (hl : l.length ≤ big) (hok : ∀ d ∈ l, NdOk d) :
    Calls Try.prog 23 #[.slice A l.length c] w fun e w' => e = .returned (.map (some w.heap.size)) ∧ GM w' w.heap.size (Gr.nodes l) ∧ Below w.heap.size w w' := by
  obtain ⟨i0, hi, hz0, hz1, hz2⟩ := info_parts info36
  have hC := Kd.C_below hC hbw
  have HC := Lib.hid hC
  have HL := Lib.hid hl
  have HOK := Lib.hid hok
  have hlm : l.length ≤ 9223372036854775807 := by unfold big at hl; omega
  have hmm := @run_makeMap Try.prog
  have HI0 : Hid (ImI w l 0 (.slice none 0 0) [] (fun _ => 0) (w.alloc (.map #[] 0))) := Lib.hid ⟨Nat.zero_le _, by simp [Gr.nodes, Gr.nodesF], by simp, World.ownsRow_nil _ _ _ _, by
    have h0 := SMap.made (P := Try.prog) (k := 9) w
    rw [mapF_nil (fun x => .map (some ((fun _ => 0) x)))] at h0
    simpa [Gr.nodes, Gr.nodesF, Gr.names] using h0, by simp [Gr.nodes, Gr.nodesF, Gr.names], by simp [Gr.nodes, Gr.nodesF, Gr.names], bel_alloc (Below.refl _ _) _⟩
  clear hC hbw hl hok
  have heS := nil_eqS
  have heN := nil_eqN
  have hnS := nil_neS
  have hnN := nil_neN
  go_enter Try.func23, Try.ntmps23
  go_wp2_with (fail)
  go_loopw [4, 14] (fun v4 v14 wr => ∃ k rns blk, v14 = .int .i64 (k : Nat) ∧ Hid (ImI w l k v4 rns blk wr)) (fun _ v14 _ => l.length - (intOf v14).toNat)
  case atStart => exact ⟨0, [], fun _ => 0, rfl, HI0⟩
  case round =>
    obtain ⟨k, rns, blk, rfl, HI⟩ := hrel
    have hk := HI.out.kl
    by_cases hlt : k < l.length
    · obtain ⟨d, hd⟩ : ∃ d, l[k]? = some d := ⟨_, List.getElem?_eq_getElem hlt⟩
      obtain ⟨ad, A1, c1, hA, x0, x1, hr⟩ := C_node HC.out hd
      subst hA
      replace x0 := cell_later HI.out.bel x0
      replace x1 := cell_later HI.out.bel x1
      have HD := Lib.hid hd
      have HR := Lib.hid hr
      have hdn := ba_size (HOK.out d (List.mem_of_getElem? hd)).1
      have i1 : (k : Int) < l.length := by omega
      have hg := HI.out.map.lt
      clear hd hr
      have HB1 := Lib.hid (HI.out.new (bel_alloc (Below.refl _ _) (.cells #[.string (ba d.name), .slice A1 d.imps.length c1] 36)))
      by_cases hm : d.name ∈ Gr.names (Gr.nodes (l.take k))
      · have hlk := map_in (g := fun x => .map (some (blk x))) (.map none) hm
        go_wp2_with (first
          | (at_lookup; refine wpList_look_smap rfl _ _ 38 rfl 9 41 Try.underlying9 Try.underlying38 w.heap.size _ _ rfl (HB1.out.map) (zero_names _) (ba d.name) hdn (.map (some (blk d.name))) rfl hlk ?_)
          | go_in)
        go_roundw
        case rel => exact ⟨k + 1, rns, blk, by go_num, Lib.hid (HB1.out.pass HD.out hm)⟩
        case measure => have := lt_len HD.out; simp [intOf]; omega
      · have hlk := map_out (g := fun x => .map (some (blk x))) (.map none) hm
        obtain ⟨G, HG⟩ : ∃ G, Hid ((wr.alloc (.cells #[.string (ba d.name), .slice A1 d.imps.length c1] 36)).heap[G]? = some (.cells #[.string (ba d.name), .slice A1 d.imps.length c1] 36 (0, 0)) ∧ G = wr.heap.size) := ⟨_, Lib.hid ⟨blk_new _ _, rfl⟩⟩
        have HM := Lib.hid (SMap.made (P := Try.prog) (k := 9) (wr.alloc (.cells #[.string (ba d.name), .slice A1 d.imps.length c1] 36)))
        have hrl : rns.length ≤ l.length := by
          have := congrArg List.length HI.out.nd
          rw [List.length_map] at this
          rw [this]
          exact Nat.le_trans (nodes_len _) (by rw [List.length_take]; omega)
        go_wp2_with (first
          | (at_lookup; refine wpList_look_smap rfl _ _ 38 rfl 9 41 Try.underlying9 Try.underlying38 w.heap.size _ _ rfl (HB1.out.map) (zero_names _) (ba d.name) hdn (.map none) rfl hlk ?_)
          | (at_mapUpdate; refine wpList_put_smap rfl _ _ _ 38 rfl 9 41 Try.underlying9 Try.underlying38 w.heap.size rns.length _ rfl ((HB1.out.new (bel_alloc (Below.refl _ _) _)).map) (by have := HL.out; unfold big at this; unfold maxLen; omega) (ba d.name) hdn _ rfl rfl ?_; intro w5 hm5 hg5; have hb5 := box_kept hg5 hg; have c0 := (blk_cell hb5 0).trans rfl; have c1' := (blk_cell hb5 1).trans rfl)
          | (at_builtin; refine wpList_append_own _ rfl _ _ 22 rfl w.heap.size 36 i0 (.agg #[.string ⟨#[]⟩, .slice none 0 0]) 2 40 Try.underlying22 hi hz0 hz1 hz2 rfl (by decide) u4 rns.length (rns.flatMap rnC) rfl ((row_kept5 (HB1.out.new (bel_alloc (Below.refl _ _) _)) hg5).alloc _) ⟨w5.heap.size, 0, none⟩ 1 1 [.string (ba d.name), .slice A1 d.imps.length c1] rfl rfl (cell_two_new _ _ _ _) (by simp [Value.oneCell']) (by have := HL.out; unfold big at this; unfold maxLen; omega) (by have := HL.out; unfold big at this; omega) (by have := HI.out.bel.size; have := hg5.size; simp at this ⊢; omega) ?_; intro v' w6 hown6 hgrow6 hnil6; go_frame)
          | go_in)
        have hs6 : SMap Try.prog 9 ((wr.alloc (.cells #[.string (ba d.name), .slice A1 d.imps.length c1] 36)).alloc (.map #[] 0)) (wr.heap.size + 1) 0 (mapF [] tt) := by
          have h0 := HM.out
          rw [World.size_alloc, mapF_nil tt] at h0
          exact h0
        have HE := HB1.out.put HD.out hm (r := ⟨d, A1, c1⟩) rfl HR.out (m := wr.heap.size + 1) (by simp) (bel_alloc (Below.refl _ _) _) hs6 hm5 hg5 hown6 ((World.grownBy_alloc w5 _ _).andThen hgrow6 (fun j hj => .inr hj))
        have HDO := HD
        clear hm5 hg5 hown6 hgrow6 hnil6 hs6
        go_roundw
        case rel => exact ⟨k + 1, _, _, by go_num, Lib.hid HE⟩
        case measure => have := lt_len HDO.out; simp [intOf]; omega
    · obtain rfl : k = l.length := by omega
      have HJ := Lib.hid HI.out.turn
      have HRL : Hid (rns.length = (Gr.nodes l).length) := Lib.hid (by rw [← HJ.out.nd, List.length_map])
      have HNL : Hid (rns.length ≤ big) := Lib.hid (by rw [HRL.out]; exact Nat.le_trans (nodes_len l) HL.out)
      obtain ⟨rA, rc, hv4, hrc⟩ := own_slice HJ.out.row
      subst hv4
      clear HI
      go_wp2_with (fail)
      go_loopw [34] (fun v34 wr => ∃ i : Nat, v34 = .int .i64 i ∧ Hid (i ≤ (Gr.nodes l).length ∧ ImJ w (Gr.nodes l) i 0 (.slice rA rns.length rc) rns blk wr)) (fun v34 _ => rns.length - (intOf v34).toNat)
      case atStart => exact ⟨0, rfl, Lib.hid ⟨Nat.zero_le _, HJ.out⟩⟩
      case round =>
        obtain ⟨i, rfl, HK⟩ := hrel
        have hnl := HNL.out
        unfold big at hnl
        by_cases hlt2 : i < rns.length
        · obtain ⟨r, hr⟩ : ∃ r, rns[i]? = some r := ⟨_, List.getElem?_eq_getElem hlt2⟩
          obtain ⟨d, hd⟩ : ∃ d, (Gr.nodes l)[i]? = some d := ⟨_, List.getElem?_eq_getElem (by rw [← HRL.out]; exact hlt2)⟩
          have hrd : r.nd = d := by
            have h1 := hd
            rw [← HK.out.2.nd, List.getElem?_map, hr] at h1
            exact Option.some.inj h1
          subst hrd
          obtain ⟨gb, hgb⟩ := row_shape HK.out.2.row (by omega)
          subst hgb
          obtain ⟨x0, x1⟩ := row_cells HK.out.2.row hr
          have HD := Lib.hid hd
          have HRok := Lib.hid (HK.out.2.ok r (List.mem_of_getElem? hr))
          have HNok := Lib.hid (HOK.out r.nd (Gr.nodes_mem (List.mem_of_getElem? hd)))
          have hdn := ba_size HNok.out.1
          have i1 : (i : Int) < rns.length := by omega
          have hI := HNok.out.2.1
          unfold big at hI
          have HB1 := Lib.hid (HK.out.2.new (bel_alloc (Below.refl _ _) (.cells #[.string (ba r.nd.name), .slice r.A r.nd.imps.length r.c] 36)))
          have HG1 := Lib.hid (blk_new wr (.cells #[.string (ba r.nd.name), .slice r.A r.nd.imps.length r.c] 36))
          have hG := HK.out.2.map.lt
          have HLT := Lib.hid hlt2
          clear hr hd HK
          go_wp2_with (fail)
          generalize (wr.alloc (.cells #[.string (ba r.nd.name), .slice r.A r.nd.imps.length r.c] 36)) = W1 at *
          generalize wr.heap.size = G at *
          go_loopw [41] (fun v41 wr => ∃ j : Nat, v41 = .int .i64 j ∧ Hid (j ≤ r.nd.imps.length) ∧ Hid (ImJ w (Gr.nodes l) i j (.slice (some ⟨gb, 0, none⟩) rns.length rc) rns blk wr) ∧ Hid (wr.heap[G]? = some (.cells #[.string (ba r.nd.name), .slice r.A r.nd.imps.length r.c] 36 (0, 0)))) (fun v41 _ => r.nd.imps.length - (intOf v41).toNat)
          case atStart => exact ⟨0, rfl, Lib.hid (Nat.zero_le _), HB1, HG1⟩
          case round =>
            obtain ⟨j, rfl, HJL, HJ2, HG2⟩ := hrel
            have hjl := HJL.out
            by_cases hlt3 : j < r.nd.imps.length
            · obtain ⟨y, hy⟩ : ∃ y, r.nd.imps[j]? = some y := ⟨_, List.getElem?_eq_getElem hlt3⟩
              obtain ⟨ad2, hA2, y0⟩ := Kd.at_string HRok.out.2 (j : Int) (by omega) (by rw [List.length_map]; omega)
              rw [rdS hy, Int.toNat_natCast] at y0
              replace y0 := cell_later HJ2.out.bel y0
              have HY := Lib.hid hy
              have hyn := ba_size (HNok.out.2.2 y (List.mem_of_getElem? hy))
              have i2 : (j : Int) < r.nd.imps.length := by omega
              have q0 := (blk_cell HG2.out 0).trans rfl
              have HLT3 := Lib.hid hlt3
              have hGw : w.heap.size < G := hG
              have hrd := HJ2.out.cur HD.out
              have hps : (impPart (Gr.nodes l) i j i r.nd).length < maxLen := by unfold maxLen; omega
              have HM2 := Lib.hid hrd.1
              clear hrd
              clear hy
              rw [hA2]
              by_cases hn : y ∈ Gr.names (Gr.nodes l)
              · have hlk := map_in (g := fun x => .map (some (blk x))) (.map none) hn
                have hlk2 := map_in (g := fun x => .map (some (blk x))) (.map none) (name_mem HD.out)
                go_wp2_with (first
                  | (at_lookup; refine wpList_look_smap rfl _ _ 38 rfl 9 41 Try.underlying9 Try.underlying38 w.heap.size _ _ rfl (HJ2.out.map) (zero_names _) (ba y) hyn (.map (some (blk y))) rfl hlk ?_)
                  | (at_lookup; refine wpList_look_smap rfl _ _ 38 rfl 9 41 Try.underlying9 Try.underlying38 w.heap.size _ _ rfl (HJ2.out.map) (zero_names _) (ba r.nd.name) hdn (.map (some (blk r.nd.name))) rfl hlk2 ?_)
                  | (at_mapUpdate; refine wpList_put_smap rfl _ _ _ 41 rfl 9 4 Try.underlying9 Try.underlying41 (blk r.nd.name) _ _ rfl HM2.out hps (ba y) hyn (.bool true) rfl rfl ?_; intro w5 hm5 hg5; go_frame)
                  | go_in)
                have HE := Lib.hid (HJ2.out.put HD.out HY.out hn hm5 hg5)
                have HG5 := Lib.hid ((hg5.block G (blk_lt HG2.out) (by
                  obtain ⟨es, clock, hb⟩ := HM2.out.not_cells
                  intro e
                  injection e with e
                  have hq := HG2.out
                  rw [e, hb] at hq
                  cases hq)).trans HG2.out)
                clear hm5 hg5
                go_roundw
                case rel => exact ⟨j + 1, by go_num, Lib.hid HLT3.out, HE, by rw [← hA2]; exact HG5⟩
                case measure => have := HLT3.out; simp [intOf]; omega
              · have hlk := map_out (g := fun x => .map (some (blk x))) (.map none) hn
                have HE := Lib.hid (HJ2.out.skip HD.out HY.out hn)
                go_wp2_with (first
                  | (at_lookup; refine wpList_look_smap rfl _ _ 38 rfl 9 41 Try.underlying9 Try.underlying38 w.heap.size _ _ rfl (HJ2.out.map) (zero_names _) (ba y) hyn (.map none) rfl hlk ?_)
                  | go_in)
                go_roundw
                case rel => exact ⟨j + 1, by go_num, Lib.hid HLT3.out, HE, by rw [← hA2]; exact HG2⟩
                case measure => have := HLT3.out; simp [intOf]; omega
            · obtain rfl : j = r.nd.imps.length := by omega
              have HE := Lib.hid (HJ2.out.next HD.out)
              go_wp2_with (fail)
              go_roundw
              case rel => exact ⟨i + 1, by go_num, Lib.hid ⟨lt_len HD.out, HE.out⟩⟩
              case measure => have := HLT.out; simp [intOf]; omega
        · obtain rfl : i = rns.length := by have := HK.out.1; rw [← HRL.out] at this; omega
          have HE := HK.out.2
          rw [HRL.out] at HE
          have HF := Lib.hid (And.intro (HE.gm (fun d hd => HOK.out d (Gr.nodes_mem hd))) HE.bel)
          clear HE
          go_wp2_with (fail)
          go_ret
          exact ⟨rfl, HF.out.1, HF.out.2⟩
end Go.Proofs.Ytpdilplgdbcjpaa
