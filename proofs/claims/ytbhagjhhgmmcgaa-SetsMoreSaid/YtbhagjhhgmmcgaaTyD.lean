/- slices.Clone of fields and of methods; term.own. -/
import Derived.Test.YtbhagjhhgmmcgaaTyC
namespace Go.Proofs.Ytbhagjhhgmmcgaa
open Go.RowKit PRef Go.Proofs.YtbhagjhhgmmcgaaW.PrintWords
set_option linter.unusedVariables false

abbrev Fld := S83
abbrev kFld := k83
abbrev Mth := S50
abbrev kMth := k50
theorem infoFld : (Try.prog.info? 83).map (fun i => (i.zero, i.size, i.bytes)) = some (some (.agg #[.string ⟨#[]⟩, .int .i64 0, .string ⟨#[]⟩, .string ⟨#[]⟩, .int .i64 0, .slice none 0 0]), 6, 88) := by kernel_rfl
theorem infoMth : (Try.prog.info? 50).map (fun i => (i.zero, i.size, i.bytes)) = some (some (.agg #[.string ⟨#[]⟩, .slice none 0 0, .int .i64 0, .string ⟨#[]⟩, .string ⟨#[]⟩, .int .i64 0, .slice none 0 0]), 7, 112) := by kernel_rfl
theorem Fld_one {w : World} {x : Fld} {cs : List Value} (h : kFld.K w x cs) : ∀ u ∈ cs, u.oneCell' = true := by
  obtain ⟨A5, c5, rfl, _⟩ := k83_open h
  simp [Value.oneCell']
theorem Mth_one {w : World} {x : Mth} {cs : List Value} (h : kMth.K w x cs) : ∀ u ∈ cs, u.oneCell' = true := by
  obtain ⟨A1, c1, A6, c6, rfl, _⟩ := k50_open h
  simp [Value.oneCell']

set_option maxRecDepth 100000 in
set_option maxHeartbeats 1000000 in
theorem cloneFld_any (l : List Fld) (A : Option Addr) (c : Nat) (w0 w : World) (h : Kd.C kFld w0 A l.length l) (hbw : Below w0.heap.size w0 w) (hc : l.length ≤ c) (hl : l.length * 88 ≤ 140737488355328) :
    Calls Try.prog 73 #[.slice A l.length c] w fun e w' => ∃ v, e = .returned v ∧ Cloned kFld 83 w0 w w' A l v ∧ Below w.heap.size w w' := by
  obtain ⟨i0, hi, hz0, hz1, hz2⟩ := info_parts infoFld
  have qeq : ∀ (w : World) (a : Option Addr) (n c : Nat), (binOp .eql 32 (.slice a n c) (.slice none 0 0)).run Try.prog w = .ok (.bool a.isNone) w := fun w a n c => run_eql_slice_nil w _ _ a n c Try.underlying32
  cases A with
  | none =>
    have hl0 : l = [] := by
      apply List.eq_nil_of_length_eq_zero
      apply Classical.byContradiction
      intro hn
      obtain ⟨_, e, _⟩ := h.2.2 (by omega)
      cases e
    subst hl0
    clear h hbw
    go_enter Try.func73, Try.ntmps73
    go_wp2_with (fail)
    go_ret
    exact ⟨_, rfl, .inl ⟨rfl, rfl, rfl⟩, Below.refl _ _⟩
  | some ad =>
    have hcs : ∃ css : List (List Value), css.length = l.length ∧ (∀ cs ∈ css, cs.length = 6) ∧ (∀ (j : Nat) x, l[j]? = some x → ∃ cs, css[j]? = some cs ∧ kFld.K w0 x cs) ∧ (∀ u ∈ css.flatten, u.oneCell' = true) ∧ (∀ (q : Nat) u, css.flatten[q]? = some u → w.cell? (ad.add q) = some u) := by
      by_cases hn : 0 < l.length
      · obtain ⟨css, h1, h2, h3, h4, h5⟩ := C_cells (d := kFld) (by decide) h hn
        refine ⟨css, h1, h2, h3, fun u hu => ?_, fun q u hq => cell_later hbw (h5 q u hq)⟩
        obtain ⟨cs, hcs, hu⟩ := List.mem_flatten.1 hu
        obtain ⟨x, _, hK⟩ := h4 cs hcs
        exact Fld_one hK u hu
      · have hl0 : l = [] := List.eq_nil_of_length_eq_zero (by omega)
        subst hl0
        exact ⟨[], rfl, by simp, by simp, by simp, by simp⟩
    obtain ⟨css, h1, h2, h3, h4, h5⟩ := hcs
    have hfl := flatten_length 6 css h2
    have H5 := Lib.hid h5
    have H4 := Lib.hid h4
    have HFL := Lib.hid (hfl.trans (by rw [h1]))
    have HRES := Lib.hid (And.intro h1 (And.intro h2 h3))
    clear h hbw h1 h2 h3 h4 h5 hfl
    go_enter Try.func73, Try.ntmps73
    go_wp2_with (at_builtin; refine wpList_append_own _ rfl _ _ 32 rfl w.heap.size 83 i0 (.agg #[.string ⟨#[]⟩, .int .i64 0, .string ⟨#[]⟩, .string ⟨#[]⟩, .int .i64 0, .slice none 0 0]) 6 88 Try.underlying32 hi hz0 hz1 hz2 rfl (by decide) _ _ _ rfl (World.ownsRow_made w #[] 0 (Nat.le_refl _) (Nat.zero_le _) rfl) ad l.length c css.flatten rfl ?c1 ?c2 ?c3 ?c4 ?c5 ?c6 ?_)
    case c1 => exact HFL.out
    case c2 =>
      intro j u hj
      have h6 := H5.out j u hj
      exact Lib.cell?_alloc_some _ h6
    case c3 => exact H4.out
    case c4 => unfold maxLen; omega
    case c5 => omega
    case c6 => simp
    intro v' w1 hown hgrow hnil
    have HOWN : Hid (w1.ownsRow w.heap.size 83 6 v' l.length css.flatten) := Lib.hid (by simpa using hown)
    have HB : Hid (Below w.heap.size w w1) := Lib.hid (((Below.refl _ w).alloc (Nat.le_refl _) _).grown hgrow (by simp) (by intro k hk; simp [Value.ownBlock] at hk; omega))
    clear hown hgrow hnil
    go_wp2_with (fail)
    go_ret
    exact ⟨_, rfl, .inr ⟨css, HRES.out.1, HRES.out.2.1, HRES.out.2.2, HOWN.out⟩, HB.out⟩

set_option maxRecDepth 100000 in
set_option maxHeartbeats 1000000 in
theorem cloneMth_any (l : List Mth) (A : Option Addr) (c : Nat) (w0 w : World) (h : Kd.C kMth w0 A l.length l) (hbw : Below w0.heap.size w0 w) (hc : l.length ≤ c) (hl : l.length * 112 ≤ 140737488355328) :
    Calls Try.prog 74 #[.slice A l.length c] w fun e w' => ∃ v, e = .returned v ∧ Cloned kMth 50 w0 w w' A l v ∧ Below w.heap.size w w' := by
  obtain ⟨i0, hi, hz0, hz1, hz2⟩ := info_parts infoMth
  have qeq : ∀ (w : World) (a : Option Addr) (n c : Nat), (binOp .eql 33 (.slice a n c) (.slice none 0 0)).run Try.prog w = .ok (.bool a.isNone) w := fun w a n c => run_eql_slice_nil w _ _ a n c Try.underlying33
  cases A with
  | none =>
    have hl0 : l = [] := by
      apply List.eq_nil_of_length_eq_zero
      apply Classical.byContradiction
      intro hn
      obtain ⟨_, e, _⟩ := h.2.2 (by omega)
      cases e
    subst hl0
    clear h hbw
    go_enter Try.func74, Try.ntmps74
    go_wp2_with (fail)
    go_ret
    exact ⟨_, rfl, .inl ⟨rfl, rfl, rfl⟩, Below.refl _ _⟩
  | some ad =>
    have hcs : ∃ css : List (List Value), css.length = l.length ∧ (∀ cs ∈ css, cs.length = 7) ∧ (∀ (j : Nat) x, l[j]? = some x → ∃ cs, css[j]? = some cs ∧ kMth.K w0 x cs) ∧ (∀ u ∈ css.flatten, u.oneCell' = true) ∧ (∀ (q : Nat) u, css.flatten[q]? = some u → w.cell? (ad.add q) = some u) := by
      by_cases hn : 0 < l.length
      · obtain ⟨css, h1, h2, h3, h4, h5⟩ := C_cells (d := kMth) (by decide) h hn
        refine ⟨css, h1, h2, h3, fun u hu => ?_, fun q u hq => cell_later hbw (h5 q u hq)⟩
        obtain ⟨cs, hcs, hu⟩ := List.mem_flatten.1 hu
        obtain ⟨x, _, hK⟩ := h4 cs hcs
        exact Mth_one hK u hu
      · have hl0 : l = [] := List.eq_nil_of_length_eq_zero (by omega)
        subst hl0
        exact ⟨[], rfl, by simp, by simp, by simp, by simp⟩
    obtain ⟨css, h1, h2, h3, h4, h5⟩ := hcs
    have hfl := flatten_length 7 css h2
    have H5 := Lib.hid h5
    have H4 := Lib.hid h4
    have HFL := Lib.hid (hfl.trans (by rw [h1]))
    have HRES := Lib.hid (And.intro h1 (And.intro h2 h3))
    clear h hbw h1 h2 h3 h4 h5 hfl
    go_enter Try.func74, Try.ntmps74
    go_wp2_with (at_builtin; refine wpList_append_own _ rfl _ _ 33 rfl w.heap.size 50 i0 (.agg #[.string ⟨#[]⟩, .slice none 0 0, .int .i64 0, .string ⟨#[]⟩, .string ⟨#[]⟩, .int .i64 0, .slice none 0 0]) 7 112 Try.underlying33 hi hz0 hz1 hz2 rfl (by decide) _ _ _ rfl (World.ownsRow_made w #[] 0 (Nat.le_refl _) (Nat.zero_le _) rfl) ad l.length c css.flatten rfl ?c1 ?c2 ?c3 ?c4 ?c5 ?c6 ?_)
    case c1 => exact HFL.out
    case c2 =>
      intro j u hj
      have h6 := H5.out j u hj
      exact Lib.cell?_alloc_some _ h6
    case c3 => exact H4.out
    case c4 => unfold maxLen; omega
    case c5 => omega
    case c6 => simp
    intro v' w1 hown hgrow hnil
    have HOWN : Hid (w1.ownsRow w.heap.size 50 7 v' l.length css.flatten) := Lib.hid (by simpa using hown)
    have HB : Hid (Below w.heap.size w w1) := Lib.hid (((Below.refl _ w).alloc (Nat.le_refl _) _).grown hgrow (by simp) (by intro k hk; simp [Value.ownBlock] at hk; omega))
    clear hown hgrow hnil
    go_wp2_with (fail)
    go_ret
    exact ⟨_, rfl, .inr ⟨css, HRES.out.1, HRES.out.2.1, HRES.out.2.2, HOWN.out⟩, HB.out⟩

set_option maxRecDepth 100000 in
set_option maxHeartbeats 1000000 in
theorem own_any {t : Ty} (ht : TyOk t) (A : Option Addr) (c : Nat) (w : World) (h : Kd.C kTy w A t.f4.length t.f4) (hc : t.f4.length ≤ c) :
    Calls Try.prog 79 #[tyV t A c] w fun e w' => ∃ A' c', e = .returned (tyV t A' c') ∧ t.f4.length ≤ c' ∧ Kd.F kTy w' (fun b => w.heap.size ≤ b) A' t.f4.length t.f4 ∧ Below w.heap.size w w' := by
  have HS := Lib.hid (fun (W : World) (hb : Below w.heap.size w W) => subst_nil ht A c W (Kd.C_below h hb) hc)
  clear h ht
  obtain ⟨f0, f1, f2, f3, l⟩ := t
  simp only [tyV] at *
  have HB0 := Lib.hid (bel_alloc (bel_alloc (Below.refl w.heap.size w) (.cells #[.int .i64 f0, .string f1, .string f2, .int .i64 f3, .slice A l.length c] 29)) (.cells #[.int .i64 0, .string ⟨#[]⟩, .string ⟨#[]⟩, .int .i64 0, .slice none 0 0] 29))
  have HR0 := Lib.hid (show ((w.alloc (.cells #[.int .i64 f0, .string f1, .string f2, .int .i64 f3, .slice A l.length c] 29)).alloc (.cells #[.int .i64 0, .string ⟨#[]⟩, .string ⟨#[]⟩, .int .i64 0, .slice none 0 0] 29)).heap[w.heap.size + 1]? = some (.cells #[.int .i64 0, .string ⟨#[]⟩, .string ⟨#[]⟩, .int .i64 0, .slice none 0 0] 29 (0, 0)) by simpa using blk_new (w.alloc (.cells #[.int .i64 f0, .string f1, .string f2, .int .i64 f3, .slice A l.length c] 29)) (.cells #[.int .i64 0, .string ⟨#[]⟩, .string ⟨#[]⟩, .int .i64 0, .slice none 0 0] 29))
  go_enter Try.func79, Try.ntmps79
  go_wp2_with (fail)
  refine (HS.out _ HB0.out).mono ?_
  rintro e w1 ⟨A', c', rfl, hc', hF, hb1⟩
  have HB1 := Lib.hid (bel_trans HB0.out hb1)
  have hr1 := blk_later hb1 HR0.out
  have HR1 := Lib.hid hr1
  have HF := Lib.hid hF
  have HC := Lib.hid hc'
  have r0 : w1.cell? ⟨w.heap.size + 1, 0, none⟩ = some (.int .i64 0) := (blk_cell hr1 0).trans rfl
  have r1 : w1.cell? ⟨w.heap.size + 1, 1, none⟩ = some (.string ⟨#[]⟩) := (blk_cell hr1 1).trans rfl
  have r2 : w1.cell? ⟨w.heap.size + 1, 2, none⟩ = some (.string ⟨#[]⟩) := (blk_cell hr1 2).trans rfl
  have r3 : w1.cell? ⟨w.heap.size + 1, 3, none⟩ = some (.int .i64 0) := (blk_cell hr1 3).trans rfl
  have r4 : w1.cell? ⟨w.heap.size + 1, 4, none⟩ = some (.slice none 0 0) := (blk_cell hr1 4).trans rfl
  have g0 := blk_free hr1 0
  have g1 := blk_free hr1 1
  have g2 := blk_free hr1 2
  have g3 := blk_free hr1 3
  have g4 := blk_free hr1 4
  clear hb1 hr1 hF hc' HS HB0 HR0
  go_wp2_with (fail)
  have h2 := blk_set (blk_set (blk_set (blk_set (blk_set HR1.out 0 (.int .i64 f0)) 1 (.string f1)) 2 (.string f2)) 3 (.int .i64 f3)) 4 (.slice A' l.length c')
  refine bodyPost_ret (results_cell_row rfl _ _ (w.heap.size + 1) 29 #[.int .i64 f0, .string f1, .string f2, .int .i64 f3, .slice A' l.length c'] (0, 0) _ rfl (h2.trans rfl) Try.underlying29 rfl (sizeTy.trans rfl)) rfl ?_
  refine ⟨A', c', rfl, HC.out, ?_, ?_⟩
  · refine Kd.F_mono (Kd.F_step HF.out (fun b hb _ => ?_)) (fun b hb => ?_)
    · simp only [World.alloc, Array.size_push] at hb
      have hne : b ≠ w.heap.size + 1 := by omega
      rw [blk_far _ _ _ _ _ hne, blk_far _ _ _ _ _ hne, blk_far _ _ _ _ _ hne, blk_far _ _ _ _ _ hne, blk_far _ _ _ _ _ hne]
    · simp only [World.alloc, Array.size_push] at hb
      omega
  · iterate 5 refine Below.setCell ?_ (by simp only; omega) _
    exact HB1.out
end Go.Proofs.Ytbhagjhhgmmcgaa
