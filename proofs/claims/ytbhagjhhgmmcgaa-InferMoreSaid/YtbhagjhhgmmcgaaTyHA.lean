/- The document's Same and Alike, walked by hand. -/
import Derived.Test.YtbhagjhhgmmcgaaTyI
import Derived.StillTailTactics
namespace Go.Proofs.Ytbhagjhhgmmcgaa
open Go.RowKit PRef Go.Proofs.YtbhagjhhgmmcgaaW.PrintWords
set_option linter.unusedVariables false
set_option linter.unusedSimpArgs false

theorem blk_newH (W : World) (o : Obj) (n : Nat) (h : W.heap.size = n) : (W.alloc o).heap[n]? = some o := by subst h; exact blk_new W o
theorem ba_neqP {x y : ByteArray} (h : ¬ x = y) : (x.toList != y.toList) = true := by have := ba_ne h; simp only [bne, this]; rfl

set_option maxRecDepth 100000 in
set_option maxHeartbeats 8000000 in
theorem ref_same_any {a : Ty} (ha : TyAll a) : ∀ (b : Ty) (A B : Option Addr) (c d : Nat) (w : World), Kd.C kTy w A a.f4.length a.f4 → a.f4.length ≤ c → Kd.C kTy w B b.f4.length b.f4 → b.f4.length ≤ d →
    Calls Try.prog 35 #[.agg #[.int .i64 a.f0, .string a.f1, .string a.f2, .int .i64 a.f3, .slice A a.f4.length c], .agg #[.int .i64 b.f0, .string b.f1, .string b.f2, .int .i64 b.f3, .slice B b.f4.length d]] w fun e w' => e = .returned (.bool (sameT a b)) ∧ Below w.heap.size w w' := by
  induction ha with
  | mk t hs ih =>
    intro b A B c d w hA hc hB hd
    obtain ⟨k, p, n, m, l⟩ := t
    obtain ⟨k', p', n', m', l'⟩ := b
    dsimp only at hs ih hA hc hB hd ⊢
    have hlm : l.length ≤ 9223372036854775807 := hA.2.1
    have hlm' : l'.length ≤ 9223372036854775807 := hB.2.1
    have HB := Lib.hid (bel_alloc (bel_alloc (Below.refl w.heap.size w) (.cells #[.int .i64 k, .string p, .string n, .int .i64 m, .slice A l.length c] 29)) (.cells #[.int .i64 k', .string p', .string n', .int .i64 m', .slice B l'.length d] 29))
    have HT := Lib.hid (blk_alloc (blk_new w (.cells #[.int .i64 k, .string p, .string n, .int .i64 m, .slice A l.length c] 29)) (.cells #[.int .i64 k', .string p', .string n', .int .i64 m', .slice B l'.length d] 29))
    have HU := Lib.hid ((show ((w.alloc (.cells #[.int .i64 k, .string p, .string n, .int .i64 m, .slice A l.length c] 29)).alloc (.cells #[.int .i64 k', .string p', .string n', .int .i64 m', .slice B l'.length d] 29)).heap[w.heap.size + 1]? = some (.cells #[.int .i64 k', .string p', .string n', .int .i64 m', .slice B l'.length d] 29 (0, 0)) from blk_newH _ _ _ (by simp)))
    have HA := Lib.hid hA
    have HA' := Lib.hid hB
    have IH := Lib.hid ih
    clear hA hB ih hs
    rw [sameT]
    by_cases hk : k = k'
    · subst hk
      rw [if_neg (by simp)]
      by_cases h4 : k = 4
      · subst h4
        rw [if_pos rfl]
        by_cases hp : p = p'
        · subst hp
          by_cases hn : n = n'
          · subst hn
            rw [show decide (p = p ∧ n = n) = true by simp]
            go_enter Try.func35, Try.ntmps35
            go_wp2_with (fail)
            go_ret
            exact ⟨rfl, HB.out⟩
          · have e0 := ba_ne hn
            have e1 := ba_neP hn
            have e2 := ba_neqP hn
            rw [show decide (p = p ∧ n = n') = false by simp [hn]]
            clear hn
            go_enter Try.func35, Try.ntmps35
            go_wp2_with (fail)
            go_ret
            exact ⟨rfl, HB.out⟩
        · have e0 := ba_ne hp
          have e1 := ba_neP hp
          have e2 := ba_neqP hp
          rw [show decide (p = p' ∧ n = n') = false by simp [hp]]
          clear hp
          go_enter Try.func35, Try.ntmps35
          go_wp2_with (fail)
          go_ret
          exact ⟨rfl, HB.out⟩
      · have c4 : (k == 4) = false := beq_eq_false_iff_ne.2 h4
        rw [if_neg h4]
        by_cases h5 : k = 5
        · subst h5
          rw [if_pos rfl, sameL_all]
          clear h4
          by_cases hlen : l.length = l'.length
          · have z1 : (l.length != l'.length) = false := by simp [hlen]
            have z2 : ((l.length : Int) != (l'.length : Int)) = false := by simp [hlen]
            have HLE := Lib.hid hlen
            clear hlen
            go_enter Try.func35, Try.ntmps35
            go_wp2_with (fail)
            go_loopw [6] (fun vi wr => ∃ j : Nat, vi = .int .i64 j ∧ Hid (j ≤ l.length ∧ allL sameT l l' = allL sameT (l.drop j) (l'.drop j)) ∧ Hid (wr.heap[w.heap.size]? = some (.cells #[.int .i64 5, .string p, .string n, .int .i64 m, .slice A l.length c] 29 (0, 0))) ∧ Hid (wr.heap[w.heap.size + 1]? = some (.cells #[.int .i64 5, .string p', .string n', .int .i64 m', .slice B l'.length d] 29 (0, 0))) ∧ Hid (Below w.heap.size w wr)) (fun vi _ => l.length - (intOf vi).toNat)
            case atStart => exact ⟨0, rfl, Lib.hid ⟨Nat.zero_le _, rfl⟩, HT, HU, HB⟩
            case round =>
              clear HT HU HB
              obtain ⟨j, rfl, HK, HT, HU, HB⟩ := hrel
              have tt := (blk_cell HT.out 4).trans rfl
              have uu := (blk_cell HU.out 4).trans rfl
              by_cases hlt : j < l.length
              · have hlt' : j < l'.length := by have := HLE.out; omega
                obtain ⟨x, hx⟩ : ∃ x, l[j]? = some x := ⟨_, List.getElem?_eq_getElem hlt⟩
                obtain ⟨y, hy⟩ : ∃ y, l'[j]? = some y := ⟨_, List.getElem?_eq_getElem hlt'⟩
                obtain ⟨ax, X4, e4, hAx, x0, x1, x2, x3, x4, lx, gx⟩ := at_T29 HA.out (j : Int) (by omega) (by omega)
                obtain ⟨ay, Y4, f4, hAy, y0, y1, y2, y3, y4, ly, gy⟩ := at_T29 HA'.out (j : Int) (by omega) (by omega)
                rw [show rd_T29 l (j : Int) = x from by unfold rd_T29; rw [Int.toNat_natCast, List.getD_eq_getElem?_getD, hx]; rfl] at x0 x1 x2 x3 x4 lx gx
                rw [show rd_T29 l' (j : Int) = y from by unfold rd_T29; rw [Int.toNat_natCast, List.getD_eq_getElem?_getD, hy]; rfl] at y0 y1 y2 y3 y4 ly gy
                rw [Int.toNat_natCast] at x0 x1 x2 x3 x4 y0 y1 y2 y3 y4
                subst hAx hAy
                replace x0 := cell_later HB.out x0
                replace x1 := cell_later HB.out x1
                replace x2 := cell_later HB.out x2
                replace x3 := cell_later HB.out x3
                replace x4 := cell_later HB.out x4
                replace y0 := cell_later HB.out y0
                replace y1 := cell_later HB.out y1
                replace y2 := cell_later HB.out y2
                replace y3 := cell_later HB.out y3
                replace y4 := cell_later HB.out y4
                have HI := Lib.hid (fun (W : World) (hb : Below w.heap.size w W) => IH.out x (List.mem_of_getElem? hx) y X4 Y4 e4 f4 W (Kd.C_below gx hb) lx (Kd.C_below gy hb) ly)
                have HD := Lib.hid (HK.out.2.trans (allL_drop sameT l l' HLE.out j x y hx hy))
                have i0 : 0 ≤ (j : Int) := by omega
                have i1 : (j : Int) < l.length := by omega
                have i2 : (j : Int) < l'.length := by omega
                have HLT := Lib.hid hlt
                clear hx hy lx gx ly gy hlt'
                cases hq : sameT x y with
                | true =>
                  rw [hq] at HI HD
                  clear hq
                  go_wp2_with (fail)
                  go_still_tail 10, (by kernel_rfl)
                  change wpList _ _ _ _ _ wr.drew
                  go_wp2_with (fail)
                  refine (HI.out _ (bel_drew HB.out)).mono ?_
                  rintro e w8 ⟨rfl, hb8⟩
                  have hB2 := Lib.hid (bel_trans (bel_drew HB.out) hb8)
                  have hT2 := Lib.hid (blk_later hb8 HT.out)
                  have hU2 := Lib.hid (blk_later hb8 HU.out)
                  clear hb8
                  go_wp2_with (fail)
                  go_roundw
                  case rel => exact ⟨j + 1, by go_num, Lib.hid ⟨HLT.out, HD.out⟩, hT2, hU2, hB2⟩
                  case measure => have := HLT.out; simp [intOf]; omega
                | false =>
                  rw [hq] at HI HD
                  clear hq
                  go_wp2_with (fail)
                  go_still_tail 10, (by kernel_rfl)
                  change wpList _ _ _ _ _ wr.drew
                  go_wp2_with (fail)
                  refine (HI.out _ (bel_drew HB.out)).mono ?_
                  rintro e w8 ⟨rfl, hb8⟩
                  have hB2 := Lib.hid (bel_trans (bel_drew HB.out) hb8)
                  clear hb8
                  go_wp2_with (fail)
                  go_ret
                  exact ⟨by rw [HD.out]; rfl, hB2.out⟩
              · obtain rfl : j = l.length := by have := HK.out.1; omega
                have HE := Lib.hid (show allL sameT l l' = true from by have := HK.out.2; rw [List.drop_length, List.drop_of_length_le (by have := HLE.out; omega)] at this; exact this)
                go_wp2_with (fail)
                go_ret
                exact ⟨by rw [HE.out]; rfl, HB.out⟩
          · have z1 : (l.length != l'.length) = true := by simp [hlen]
            have z2 : ((l.length : Int) != (l'.length : Int)) = true := by simp; omega
            rw [allL_len _ _ _ hlen]
            clear hlen
            go_enter Try.func35, Try.ntmps35
            go_wp2_with (fail)
            go_ret
            exact ⟨rfl, HB.out⟩
        · have c5 : (k == 5) = false := beq_eq_false_iff_ne.2 h5
          rw [if_neg h5]
          by_cases h6 : k = 6
          · subst h6
            rw [if_pos rfl]
            clear h4 h5
            by_cases hm : m = m'
            · subst hm
              rw [show decide (m = m) = true by simp]
              go_enter Try.func35, Try.ntmps35
              go_wp2_with (fail)
              go_ret
              exact ⟨rfl, HB.out⟩
            · have e0 : (m != m') = true := by simp [hm]
              rw [show decide (m = m') = false by simp [hm]]
              clear hm
              go_enter Try.func35, Try.ntmps35
              go_wp2_with (fail)
              go_ret
              exact ⟨rfl, HB.out⟩
          · have c6 : (k == 6) = false := beq_eq_false_iff_ne.2 h6
            rw [if_neg h6]
            by_cases hkn : 0 ≤ k ∧ k ≤ 7
            · have d0 : decide (0 ≤ k) = true := decide_eq_true hkn.1
              have d7 : decide (k ≤ 7) = true := decide_eq_true hkn.2
              rw [if_pos hkn]
              clear h4 h5 h6 hkn
              go_enter Try.func35, Try.ntmps35
              go_wp2_with (fail)
              go_ret
              exact ⟨rfl, HB.out⟩
            · rw [if_neg hkn]
              have hD : (decide (0 ≤ k) = true ∧ decide (k ≤ 7) = false) ∨ decide (0 ≤ k) = false := by
                by_cases h0 : 0 ≤ k
                · exact .inl ⟨decide_eq_true h0, decide_eq_false (by omega)⟩
                · exact .inr (decide_eq_false h0)
              clear hkn h4 h5 h6
              by_cases hp : p = p'
              · subst hp
                by_cases hn : n = n'
                · subst hn
                  by_cases hm : m = m'
                  · subst hm
                    rw [show (decide (p = p ∧ n = n ∧ m = m) && sameL l l') = allL sameT l l' by rw [sameL_all]; simp]
                    by_cases hlen : l.length = l'.length
                    · have z1 : (l.length != l'.length) = false := by simp [hlen]
                      have z2 : ((l.length : Int) != (l'.length : Int)) = false := by simp [hlen]
                      have HLE := Lib.hid hlen
                      clear hlen
                      rcases hD with ⟨d0, d7⟩ | d0
                      all_goals
                        go_enter Try.func35, Try.ntmps35
                        go_wp2_with (fail)
                        go_loopw [6] (fun vi wr => ∃ j : Nat, vi = .int .i64 j ∧ Hid (j ≤ l.length ∧ allL sameT l l' = allL sameT (l.drop j) (l'.drop j)) ∧ Hid (wr.heap[w.heap.size]? = some (.cells #[.int .i64 k, .string p, .string n, .int .i64 m, .slice A l.length c] 29 (0, 0))) ∧ Hid (wr.heap[w.heap.size + 1]? = some (.cells #[.int .i64 k, .string p, .string n, .int .i64 m, .slice B l'.length d] 29 (0, 0))) ∧ Hid (Below w.heap.size w wr)) (fun vi _ => l.length - (intOf vi).toNat)
                        case atStart => exact ⟨0, rfl, Lib.hid ⟨Nat.zero_le _, rfl⟩, HT, HU, HB⟩
                        case round =>
                          clear HT HU HB
                          obtain ⟨j, rfl, HK, HT, HU, HB⟩ := hrel
                          have tt := (blk_cell HT.out 4).trans rfl
                          have uu := (blk_cell HU.out 4).trans rfl
                          by_cases hlt : j < l.length
                          · have hlt' : j < l'.length := by have := HLE.out; omega
                            obtain ⟨x, hx⟩ : ∃ x, l[j]? = some x := ⟨_, List.getElem?_eq_getElem hlt⟩
                            obtain ⟨y, hy⟩ : ∃ y, l'[j]? = some y := ⟨_, List.getElem?_eq_getElem hlt'⟩
                            obtain ⟨ax, X4, e4, hAx, x0, x1, x2, x3, x4, lx, gx⟩ := at_T29 HA.out (j : Int) (by omega) (by omega)
                            obtain ⟨ay, Y4, f4, hAy, y0, y1, y2, y3, y4, ly, gy⟩ := at_T29 HA'.out (j : Int) (by omega) (by omega)
                            rw [show rd_T29 l (j : Int) = x from by unfold rd_T29; rw [Int.toNat_natCast, List.getD_eq_getElem?_getD, hx]; rfl] at x0 x1 x2 x3 x4 lx gx
                            rw [show rd_T29 l' (j : Int) = y from by unfold rd_T29; rw [Int.toNat_natCast, List.getD_eq_getElem?_getD, hy]; rfl] at y0 y1 y2 y3 y4 ly gy
                            rw [Int.toNat_natCast] at x0 x1 x2 x3 x4 y0 y1 y2 y3 y4
                            subst hAx hAy
                            replace x0 := cell_later HB.out x0
                            replace x1 := cell_later HB.out x1
                            replace x2 := cell_later HB.out x2
                            replace x3 := cell_later HB.out x3
                            replace x4 := cell_later HB.out x4
                            replace y0 := cell_later HB.out y0
                            replace y1 := cell_later HB.out y1
                            replace y2 := cell_later HB.out y2
                            replace y3 := cell_later HB.out y3
                            replace y4 := cell_later HB.out y4
                            have HI := Lib.hid (fun (W : World) (hb : Below w.heap.size w W) => IH.out x (List.mem_of_getElem? hx) y X4 Y4 e4 f4 W (Kd.C_below gx hb) lx (Kd.C_below gy hb) ly)
                            have HD := Lib.hid (HK.out.2.trans (allL_drop sameT l l' HLE.out j x y hx hy))
                            have i0 : 0 ≤ (j : Int) := by omega
                            have i1 : (j : Int) < l.length := by omega
                            have i2 : (j : Int) < l'.length := by omega
                            have HLT := Lib.hid hlt
                            clear hx hy lx gx ly gy hlt'
                            cases hq : sameT x y with
                            | true =>
                              rw [hq] at HI HD
                              clear hq
                              go_wp2_with (fail)
                              go_still_tail 10, (by kernel_rfl)
                              change wpList _ _ _ _ _ wr.drew
                              go_wp2_with (fail)
                              refine (HI.out _ (bel_drew HB.out)).mono ?_
                              rintro e w8 ⟨rfl, hb8⟩
                              have hB2 := Lib.hid (bel_trans (bel_drew HB.out) hb8)
                              have hT2 := Lib.hid (blk_later hb8 HT.out)
                              have hU2 := Lib.hid (blk_later hb8 HU.out)
                              clear hb8
                              go_wp2_with (fail)
                              go_roundw
                              case rel => exact ⟨j + 1, by go_num, Lib.hid ⟨HLT.out, HD.out⟩, hT2, hU2, hB2⟩
                              case measure => have := HLT.out; simp [intOf]; omega
                            | false =>
                              rw [hq] at HI HD
                              clear hq
                              go_wp2_with (fail)
                              go_still_tail 10, (by kernel_rfl)
                              change wpList _ _ _ _ _ wr.drew
                              go_wp2_with (fail)
                              refine (HI.out _ (bel_drew HB.out)).mono ?_
                              rintro e w8 ⟨rfl, hb8⟩
                              have hB2 := Lib.hid (bel_trans (bel_drew HB.out) hb8)
                              clear hb8
                              go_wp2_with (fail)
                              go_ret
                              exact ⟨by rw [HD.out]; rfl, hB2.out⟩
                          · obtain rfl : j = l.length := by have := HK.out.1; omega
                            have HE := Lib.hid (show allL sameT l l' = true from by have := HK.out.2; rw [List.drop_length, List.drop_of_length_le (by have := HLE.out; omega)] at this; exact this)
                            go_wp2_with (fail)
                            go_ret
                            exact ⟨by rw [HE.out]; rfl, HB.out⟩
                    · have z1 : (l.length != l'.length) = true := by simp [hlen]
                      have z2 : ((l.length : Int) != (l'.length : Int)) = true := by simp; omega
                      rw [allL_len _ _ _ hlen]
                      clear hlen
                      rcases hD with ⟨d0, d7⟩ | d0
                      all_goals
                        go_enter Try.func35, Try.ntmps35
                        go_wp2_with (fail)
                        go_ret
                        exact ⟨rfl, HB.out⟩
                  · have e0 : (m != m') = true := by simp [hm]
                    rw [show (decide (p = p ∧ n = n ∧ m = m') && sameL l l') = false by simp [hm]]
                    clear hm
                    rcases hD with ⟨d0, d7⟩ | d0
                    all_goals
                      go_enter Try.func35, Try.ntmps35
                      go_wp2_with (fail)
                      go_ret
                      exact ⟨rfl, HB.out⟩
                · have e0 := ba_ne hn
                  have e1 := ba_neP hn
                  have e2 := ba_neqP hn
                  rw [show (decide (p = p ∧ n = n' ∧ m = m') && sameL l l') = false by simp [hn]]
                  clear hn
                  rcases hD with ⟨d0, d7⟩ | d0
                  all_goals
                    go_enter Try.func35, Try.ntmps35
                    go_wp2_with (fail)
                    go_ret
                    exact ⟨rfl, HB.out⟩
              · have e0 := ba_ne hp
                have e1 := ba_neP hp
                have e2 := ba_neqP hp
                rw [show (decide (p = p' ∧ n = n' ∧ m = m') && sameL l l') = false by simp [hp]]
                clear hp
                rcases hD with ⟨d0, d7⟩ | d0
                all_goals
                  go_enter Try.func35, Try.ntmps35
                  go_wp2_with (fail)
                  go_ret
                  exact ⟨rfl, HB.out⟩
    · have ck : (k != k') = true := by simp [hk]
      rw [if_pos hk]
      clear hk
      go_enter Try.func35, Try.ntmps35
      go_wp2_with (fail)
      go_ret
      exact ⟨rfl, HB.out⟩

set_option maxRecDepth 100000 in
set_option maxHeartbeats 8000000 in
theorem ref_alike_any {a : Ty} (ha : TyAll a) : ∀ (b : Ty) (A B : Option Addr) (c d : Nat) (w : World), Kd.C kTy w A a.f4.length a.f4 → a.f4.length ≤ c → Kd.C kTy w B b.f4.length b.f4 → b.f4.length ≤ d →
    Calls Try.prog 28 #[.agg #[.int .i64 a.f0, .string a.f1, .string a.f2, .int .i64 a.f3, .slice A a.f4.length c], .agg #[.int .i64 b.f0, .string b.f1, .string b.f2, .int .i64 b.f3, .slice B b.f4.length d]] w fun e w' => e = .returned (.bool (alikeT a b)) ∧ Below w.heap.size w w' := by
  induction ha with
  | mk t hs ih =>
    intro b A B c d w hA hc hB hd
    obtain ⟨k, p, n, m, l⟩ := t
    obtain ⟨k', p', n', m', l'⟩ := b
    dsimp only at hs ih hA hc hB hd ⊢
    have hlm : l.length ≤ 9223372036854775807 := hA.2.1
    have hlm' : l'.length ≤ 9223372036854775807 := hB.2.1
    have HB := Lib.hid (bel_alloc (bel_alloc (Below.refl w.heap.size w) (.cells #[.int .i64 k, .string p, .string n, .int .i64 m, .slice A l.length c] 29)) (.cells #[.int .i64 k', .string p', .string n', .int .i64 m', .slice B l'.length d] 29))
    have HT := Lib.hid (blk_alloc (blk_new w (.cells #[.int .i64 k, .string p, .string n, .int .i64 m, .slice A l.length c] 29)) (.cells #[.int .i64 k', .string p', .string n', .int .i64 m', .slice B l'.length d] 29))
    have HU := Lib.hid ((show ((w.alloc (.cells #[.int .i64 k, .string p, .string n, .int .i64 m, .slice A l.length c] 29)).alloc (.cells #[.int .i64 k', .string p', .string n', .int .i64 m', .slice B l'.length d] 29)).heap[w.heap.size + 1]? = some (.cells #[.int .i64 k', .string p', .string n', .int .i64 m', .slice B l'.length d] 29 (0, 0)) from blk_newH _ _ _ (by simp)))
    have HA := Lib.hid hA
    have HA' := Lib.hid hB
    have IH := Lib.hid ih
    clear hA hB ih hs
    have HSM := Lib.hid (fun (W : World) (hb : Below w.heap.size w W) => ref_same_any (tyAll ⟨k, p, n, m, l⟩) ⟨k', p', n', m', l'⟩ A B c d W (Kd.C_below HA.out hb) hc (Kd.C_below HA'.out hb) hd)
    rw [alikeT]
    by_cases h0 : k = 0
    · subst h0
      rw [if_pos rfl]
      go_enter Try.func28, Try.ntmps28
      go_wp2_with (fail)
      go_ret
      exact ⟨rfl, HB.out⟩
    · have c0 : (k == 0) = false := beq_eq_false_iff_ne.2 h0
      rw [if_neg h0]
      by_cases h0' : k' = 0
      · subst h0'
        rw [if_pos rfl]
        clear h0
        go_enter Try.func28, Try.ntmps28
        go_wp2_with (fail)
        go_ret
        exact ⟨rfl, HB.out⟩
      · have c0' : (k' == 0) = false := beq_eq_false_iff_ne.2 h0'
        rw [if_neg h0']
        clear h0 h0'
        by_cases h5 : k = 5
        · subst h5
          by_cases h5' : k' = 5
          · subst h5'
            rw [if_pos ⟨rfl, rfl⟩, alikeL_all]
            by_cases hlen : l.length = l'.length
            · have z1 : (l.length != l'.length) = false := by simp [hlen]
              have z2 : ((l.length : Int) != (l'.length : Int)) = false := by simp [hlen]
              have HLE := Lib.hid hlen
              clear hlen HSM
              go_enter Try.func28, Try.ntmps28
              go_wp2_with (fail)
              go_loopw [5] (fun vi wr => ∃ j : Nat, vi = .int .i64 j ∧ Hid (j ≤ l.length ∧ allL alikeT l l' = allL alikeT (l.drop j) (l'.drop j)) ∧ Hid (wr.heap[w.heap.size]? = some (.cells #[.int .i64 5, .string p, .string n, .int .i64 m, .slice A l.length c] 29 (0, 0))) ∧ Hid (wr.heap[w.heap.size + 1]? = some (.cells #[.int .i64 5, .string p', .string n', .int .i64 m', .slice B l'.length d] 29 (0, 0))) ∧ Hid (Below w.heap.size w wr)) (fun vi _ => l.length - (intOf vi).toNat)
              case atStart => exact ⟨0, rfl, Lib.hid ⟨Nat.zero_le _, rfl⟩, HT, HU, HB⟩
              case round =>
                clear HT HU HB
                obtain ⟨j, rfl, HK, HT, HU, HB⟩ := hrel
                have tt := (blk_cell HT.out 4).trans rfl
                have uu := (blk_cell HU.out 4).trans rfl
                by_cases hlt : j < l.length
                · have hlt' : j < l'.length := by have := HLE.out; omega
                  obtain ⟨x, hx⟩ : ∃ x, l[j]? = some x := ⟨_, List.getElem?_eq_getElem hlt⟩
                  obtain ⟨y, hy⟩ : ∃ y, l'[j]? = some y := ⟨_, List.getElem?_eq_getElem hlt'⟩
                  obtain ⟨ax, X4, e4, hAx, x0, x1, x2, x3, x4, lx, gx⟩ := at_T29 HA.out (j : Int) (by omega) (by omega)
                  obtain ⟨ay, Y4, f4, hAy, y0, y1, y2, y3, y4, ly, gy⟩ := at_T29 HA'.out (j : Int) (by omega) (by omega)
                  rw [show rd_T29 l (j : Int) = x from by unfold rd_T29; rw [Int.toNat_natCast, List.getD_eq_getElem?_getD, hx]; rfl] at x0 x1 x2 x3 x4 lx gx
                  rw [show rd_T29 l' (j : Int) = y from by unfold rd_T29; rw [Int.toNat_natCast, List.getD_eq_getElem?_getD, hy]; rfl] at y0 y1 y2 y3 y4 ly gy
                  rw [Int.toNat_natCast] at x0 x1 x2 x3 x4 y0 y1 y2 y3 y4
                  subst hAx hAy
                  replace x0 := cell_later HB.out x0
                  replace x1 := cell_later HB.out x1
                  replace x2 := cell_later HB.out x2
                  replace x3 := cell_later HB.out x3
                  replace x4 := cell_later HB.out x4
                  replace y0 := cell_later HB.out y0
                  replace y1 := cell_later HB.out y1
                  replace y2 := cell_later HB.out y2
                  replace y3 := cell_later HB.out y3
                  replace y4 := cell_later HB.out y4
                  have HI := Lib.hid (fun (W : World) (hb : Below w.heap.size w W) => IH.out x (List.mem_of_getElem? hx) y X4 Y4 e4 f4 W (Kd.C_below gx hb) lx (Kd.C_below gy hb) ly)
                  have HD := Lib.hid (HK.out.2.trans (allL_drop alikeT l l' HLE.out j x y hx hy))
                  have i0 : 0 ≤ (j : Int) := by omega
                  have i1 : (j : Int) < l.length := by omega
                  have i2 : (j : Int) < l'.length := by omega
                  have HLT := Lib.hid hlt
                  clear hx hy lx gx ly gy hlt'
                  cases hq : alikeT x y with
                  | true =>
                    rw [hq] at HI HD
                    clear hq
                    go_wp2_with (fail)
                    go_still_tail 10, (by kernel_rfl)
                    change wpList _ _ _ _ _ wr.drew
                    go_wp2_with (fail)
                    refine (HI.out _ (bel_drew HB.out)).mono ?_
                    rintro e w8 ⟨rfl, hb8⟩
                    have hB2 := Lib.hid (bel_trans (bel_drew HB.out) hb8)
                    have hT2 := Lib.hid (blk_later hb8 HT.out)
                    have hU2 := Lib.hid (blk_later hb8 HU.out)
                    clear hb8
                    go_wp2_with (fail)
                    go_roundw
                    case rel => exact ⟨j + 1, by go_num, Lib.hid ⟨HLT.out, HD.out⟩, hT2, hU2, hB2⟩
                    case measure => have := HLT.out; simp [intOf]; omega
                  | false =>
                    rw [hq] at HI HD
                    clear hq
                    go_wp2_with (fail)
                    go_still_tail 10, (by kernel_rfl)
                    change wpList _ _ _ _ _ wr.drew
                    go_wp2_with (fail)
                    refine (HI.out _ (bel_drew HB.out)).mono ?_
                    rintro e w8 ⟨rfl, hb8⟩
                    have hB2 := Lib.hid (bel_trans (bel_drew HB.out) hb8)
                    clear hb8
                    go_wp2_with (fail)
                    go_ret
                    exact ⟨by rw [HD.out]; rfl, hB2.out⟩
                · obtain rfl : j = l.length := by have := HK.out.1; omega
                  have HE := Lib.hid (show allL alikeT l l' = true from by have := HK.out.2; rw [List.drop_length, List.drop_of_length_le (by have := HLE.out; omega)] at this; exact this)
                  go_wp2_with (fail)
                  go_ret
                  exact ⟨by rw [HE.out]; rfl, HB.out⟩
            · have z1 : (l.length != l'.length) = true := by simp [hlen]
              have z2 : ((l.length : Int) != (l'.length : Int)) = true := by simp; omega
              rw [allL_len _ _ _ hlen]
              clear hlen
              go_enter Try.func28, Try.ntmps28
              go_wp2_with (fail)
              go_ret
              exact ⟨rfl, HB.out⟩
          · have c5' : (k' != 5) = true := by simp [h5']
            rw [if_neg (fun e => h5' e.2)]
            clear h5'
            generalize sameT _ _ = sa at *
            go_enter Try.func28, Try.ntmps28
            go_wp2_with (fail)
            refine (HSM.out _ HB.out).mono ?_
            rintro e w1 ⟨rfl, hb⟩
            replace HB := Lib.hid (bel_trans HB.out hb)
            clear hb
            go_wp2_with (fail)
            go_ret
            exact ⟨rfl, HB.out⟩
        · have c5 : (k != 5) = true := by simp [h5]
          rw [if_neg (fun e => h5 e.1)]
          clear h5
          generalize sameT _ _ = sa at *
          go_enter Try.func28, Try.ntmps28
          go_wp2_with (fail)
          refine (HSM.out _ HB.out).mono ?_
          rintro e w1 ⟨rfl, hb⟩
          replace HB := Lib.hid (bel_trans HB.out hb)
          clear hb
          go_wp2_with (fail)
          go_ret
          exact ⟨rfl, HB.out⟩
end Go.Proofs.Ytbhagjhhgmmcgaa
