/- slices.Clone of fields and of methods; term.own. Rows of any kind of element, one element laid anew after the other. -/
import Derived.Test.YtbhagjhhgmmcgaaTyC
namespace Go.Proofs.Ytbhagjhhgmmcgaa
open Go.RowKit PRef Go.Proofs.YtbhagjhhgmmcgaaW.PrintWords
set_option linter.unusedVariables false

abbrev Fld := S83
abbrev kFld := k83
abbrev Mth := S50
abbrev kMth := k50
theorem infoFld : (Try.prog.info? 83).map (fun i => (i.zero, i.size, i.bytes)) = some (some (.agg #[.string ⟨#[]⟩, .int .i64 0, .string ⟨#[]⟩, .string ⟨#[]⟩, .int .i64 0, .slice none 0 0]), 6, 88) := by kernel_rfl
theorem infoMth : (Try.prog.info? 50).map (fun i => (i.zero, i.size, i.bytes)) = some (some (.agg #[.string ⟨#[]⟩, .slice none 0 0, .int .i64 0, .string ⟨#[]⟩, .string ⟨#[]⟩, .int .i64 0, .slice none 0 0]), 7, 112) := by kernel_rfl
theorem Fld_one {w : World} {x : Fld} {cs : List Value} (h : kFld.K w x cs) : ∀ u ∈ cs, u.oneCell' = true := by
  obtain ⟨A5, c5, rfl, _⟩ := k83_open h
  simp [Value.oneCell']
theorem Mth_one {w : World} {x : Mth} {cs : List Value} (h : kMth.K w x cs) : ∀ u ∈ cs, u.oneCell' = true := by
  obtain ⟨A1, c1, A6, c6, rfl, _⟩ := k50_open h
  simp [Value.oneCell']

set_option maxRecDepth 100000 in
set_option maxHeartbeats 1000000 in
theorem cloneFld_any (l : List Fld) (A : Option Addr) (c : Nat) (w0 w : World) (h : Kd.C kFld w0 A l.length l) (hbw : Below w0.heap.size w0 w) (hc : l.length ≤ c) (hl : l.length * 88 ≤ 140737488355328) :
    Calls Try.prog 73 #[.slice A l.length c] w fun e w' => ∃ v, e = .returned v ∧ Cloned kFld 83 w0 w w' A l v ∧ Below w.heap.size w w' := by
  obtain ⟨i0, hi, hz0, hz1, hz2⟩ := info_parts infoFld
  have qeq : ∀ (w : World) (a : Option Addr) (n c : Nat), (binOp .eql 32 (.slice a n c) (.slice none 0 0)).run Try.prog w = .ok (.bool a.isNone) w := fun w a n c => run_eql_slice_nil w _ _ a n c Try.underlying32
  cases A with
  | none =>
    have hl0 : l = [] := by
      apply List.eq_nil_of_length_eq_zero
      apply Classical.byContradiction
      intro hn
      obtain ⟨_, e, _⟩ := h.2.2 (by omega)
      cases e
    subst hl0
    clear h hbw
    go_enter Try.func73, Try.ntmps73
    go_wp2_with (fail)
    go_ret
    exact ⟨_, rfl, .inl ⟨rfl, rfl, rfl⟩, Below.refl _ _⟩
  | some ad =>
    have hcs : ∃ css : List (List Value), css.length = l.length ∧ (∀ cs ∈ css, cs.length = 6) ∧ (∀ (j : Nat) x, l[j]? = some x → ∃ cs, css[j]? = some cs ∧ kFld.K w0 x cs) ∧ (∀ u ∈ css.flatten, u.oneCell' = true) ∧ (∀ (q : Nat) u, css.flatten[q]? = some u → w.cell? (ad.add q) = some u) := by
      by_cases hn : 0 < l.length
      · obtain ⟨css, h1, h2, h3, h4, h5⟩ := C_cells (d := kFld) (by decide) h hn
        refine ⟨css, h1, h2, h3, fun u hu => ?_, fun q u hq => cell_later hbw (h5 q u hq)⟩
        obtain ⟨cs, hcs, hu⟩ := List.mem_flatten.1 hu
        obtain ⟨x, _, hK⟩ := h4 cs hcs
        exact Fld_one hK u hu
      · have hl0 : l = [] := List.eq_nil_of_length_eq_zero (by omega)
        subst hl0
        exact ⟨[], rfl, by simp, by simp, by simp, by simp⟩
    obtain ⟨css, h1, h2, h3, h4, h5⟩ := hcs
    have hfl := flatten_length 6 css h2
    have H5 := Lib.hid h5
    have H4 := Lib.hid h4
    have HFL := Lib.hid (hfl.trans (by rw [h1]))
    have HRES := Lib.hid (And.intro h1 (And.intro h2 h3))
    clear h hbw h1 h2 h3 h4 h5 hfl
    go_enter Try.func73, Try.ntmps73
    go_wp2_with (at_builtin; refine wpList_append_own _ rfl _ _ 32 rfl w.heap.size 83 i0 (.agg #[.string ⟨#[]⟩, .int .i64 0, .string ⟨#[]⟩, .string ⟨#[]⟩, .int .i64 0, .slice none 0 0]) 6 88 Try.underlying32 hi hz0 hz1 hz2 rfl (by decide) _ _ _ rfl (World.ownsRow_made w #[] 0 (Nat.le_refl _) (Nat.zero_le _) rfl) ad l.length c css.flatten rfl ?c1 ?c2 ?c3 ?c4 ?c5 ?c6 ?_)
    case c1 => exact HFL.out
    case c2 =>
      intro j u hj
      have h6 := H5.out j u hj
      exact Lib.cell?_alloc_some _ h6
    case c3 => exact H4.out
    case c4 => unfold maxLen; omega
    case c5 => omega
    case c6 => simp
    intro v' w1 hown hgrow hnil
    have HOWN : Hid (w1.ownsRow w.heap.size 83 6 v' l.length css.flatten) := Lib.hid (by simpa using hown)
    have HB : Hid (Below w.heap.size w w1) := Lib.hid (((Below.refl _ w).alloc (Nat.le_refl _) _).grown hgrow (by simp) (by intro k hk; simp [Value.ownBlock] at hk; omega))
    clear hown hgrow hnil
    go_wp2_with (fail)
    go_ret
    exact ⟨_, rfl, .inr ⟨css, HRES.out.1, HRES.out.2.1, HRES.out.2.2, HOWN.out⟩, HB.out⟩

set_option maxRecDepth 100000 in
set_option maxHeartbeats 1000000 in
theorem cloneMth_any (l : List Mth) (A : Option Addr) (c : Nat) (w0 w : World) (h : Kd.C kMth w0 A l.length l) (hbw : Below w0.heap.size w0 w) (hc : l.length ≤ c) (hl : l.length * 112 ≤ 140737488355328) :
    Calls Try.prog 74 #[.slice A l.length c] w fun e w' => ∃ v, e = .returned v ∧ Cloned kMth 50 w0 w w' A l v ∧ Below w.heap.size w w' := by
  obtain ⟨i0, hi, hz0, hz1, hz2⟩ := info_parts infoMth
  have qeq : ∀ (w : World) (a : Option Addr) (n c : Nat), (binOp .eql 33 (.slice a n c) (.slice none 0 0)).run Try.prog w = .ok (.bool a.isNone) w := fun w a n c => run_eql_slice_nil w _ _ a n c Try.underlying33
  cases A with
  | none =>
    have hl0 : l = [] := by
      apply List.eq_nil_of_length_eq_zero
      apply Classical.byContradiction
      intro hn
      obtain ⟨_, e, _⟩ := h.2.2 (by omega)
      cases e
    subst hl0
    clear h hbw
    go_enter Try.func74, Try.ntmps74
    go_wp2_with (fail)
    go_ret
    exact ⟨_, rfl, .inl ⟨rfl, rfl, rfl⟩, Below.refl _ _⟩
  | some ad =>
    have hcs : ∃ css : List (List Value), css.length = l.length ∧ (∀ cs ∈ css, cs.length = 7) ∧ (∀ (j : Nat) x, l[j]? = some x → ∃ cs, css[j]? = some cs ∧ kMth.K w0 x cs) ∧ (∀ u ∈ css.flatten, u.oneCell' = true) ∧ (∀ (q : Nat) u, css.flatten[q]? = some u → w.cell? (ad.add q) = some u) := by
      by_cases hn : 0 < l.length
      · obtain ⟨css, h1, h2, h3, h4, h5⟩ := C_cells (d := kMth) (by decide) h hn
        refine ⟨css, h1, h2, h3, fun u hu => ?_, fun q u hq => cell_later hbw (h5 q u hq)⟩
        obtain ⟨cs, hcs, hu⟩ := List.mem_flatten.1 hu
        obtain ⟨x, _, hK⟩ := h4 cs hcs
        exact Mth_one hK u hu
      · have hl0 : l = [] := List.eq_nil_of_length_eq_zero (by omega)
        subst hl0
        exact ⟨[], rfl, by simp, by simp, by simp, by simp⟩
    obtain ⟨css, h1, h2, h3, h4, h5⟩ := hcs
    have hfl := flatten_length 7 css h2
    have H5 := Lib.hid h5
    have H4 := Lib.hid h4
    have HFL := Lib.hid (hfl.trans (by rw [h1]))
    have HRES := Lib.hid (And.intro h1 (And.intro h2 h3))
    clear h hbw h1 h2 h3 h4 h5 hfl
    go_enter Try.func74, Try.ntmps74
    go_wp2_with (at_builtin; refine wpList_append_own _ rfl _ _ 33 rfl w.heap.size 50 i0 (.agg #[.string ⟨#[]⟩, .slice none 0 0, .int .i64 0, .string ⟨#[]⟩, .string ⟨#[]⟩, .int .i64 0, .slice none 0 0]) 7 112 Try.underlying33 hi hz0 hz1 hz2 rfl (by decide) _ _ _ rfl (World.ownsRow_made w #[] 0 (Nat.le_refl _) (Nat.zero_le _) rfl) ad l.length c css.flatten rfl ?c1 ?c2 ?c3 ?c4 ?c5 ?c6 ?_)
    case c1 => exact HFL.out
    case c2 =>
      intro j u hj
      have h6 := H5.out j u hj
      exact Lib.cell?_alloc_some _ h6
    case c3 => exact H4.out
    case c4 => unfold maxLen; omega
    case c5 => omega
    case c6 => simp
    intro v' w1 hown hgrow hnil
    have HOWN : Hid (w1.ownsRow w.heap.size 50 7 v' l.length css.flatten) := Lib.hid (by simpa using hown)
    have HB : Hid (Below w.heap.size w w1) := Lib.hid (((Below.refl _ w).alloc (Nat.le_refl _) _).grown hgrow (by simp) (by intro k hk; simp [Value.ownBlock] at hk; omega))
    clear hown hgrow hnil
    go_wp2_with (fail)
    go_ret
    exact ⟨_, rfl, .inr ⟨css, HRES.out.1, HRES.out.2.1, HRES.out.2.2, HOWN.out⟩, HB.out⟩

set_option maxRecDepth 100000 in
set_option maxHeartbeats 1000000 in
theorem own_any {t : Ty} (ht : TyOk t) (A : Option Addr) (c : Nat) (w : World) (h : Kd.C kTy w A t.f4.length t.f4) (hc : t.f4.length ≤ c) :
    Calls Try.prog 79 #[tyV t A c] w fun e w' => ∃ A' c', e = .returned (tyV t A' c') ∧ t.f4.length ≤ c' ∧ Kd.F kTy w' (fun b => w.heap.size ≤ b) A' t.f4.length t.f4 ∧ Below w.heap.size w w' := by
  have HS := Lib.hid (fun (W : World) (hb : Below w.heap.size w W) => subst_nil ht A c W (Kd.C_below h hb) hc)
  clear h ht
  obtain ⟨f0, f1, f2, f3, l⟩ := t
  simp only [tyV] at *
  have HB0 := Lib.hid (bel_alloc (bel_alloc (Below.refl w.heap.size w) (.cells #[.int .i64 f0, .string f1, .string f2, .int .i64 f3, .slice A l.length c] 29)) (.cells #[.int .i64 0, .string ⟨#[]⟩, .string ⟨#[]⟩, .int .i64 0, .slice none 0 0] 29))
  have HR0 := Lib.hid (show ((w.alloc (.cells #[.int .i64 f0, .string f1, .string f2, .int .i64 f3, .slice A l.length c] 29)).alloc (.cells #[.int .i64 0, .string ⟨#[]⟩, .string ⟨#[]⟩, .int .i64 0, .slice none 0 0] 29)).heap[w.heap.size + 1]? = some (.cells #[.int .i64 0, .string ⟨#[]⟩, .string ⟨#[]⟩, .int .i64 0, .slice none 0 0] 29 (0, 0)) by simpa using blk_new (w.alloc (.cells #[.int .i64 f0, .string f1, .string f2, .int .i64 f3, .slice A l.length c] 29)) (.cells #[.int .i64 0, .string ⟨#[]⟩, .string ⟨#[]⟩, .int .i64 0, .slice none 0 0] 29))
  go_enter Try.func79, Try.ntmps79
  go_wp2_with (fail)
  refine (HS.out _ HB0.out).mono ?_
  rintro e w1 ⟨A', c', rfl, hc', hF, hb1⟩
  have HB1 := Lib.hid (bel_trans HB0.out hb1)
  have hr1 := blk_later hb1 HR0.out
  have HR1 := Lib.hid hr1
  have HF := Lib.hid hF
  have HC := Lib.hid hc'
  have r0 : w1.cell? ⟨w.heap.size + 1, 0, none⟩ = some (.int .i64 0) := (blk_cell hr1 0).trans rfl
  have r1 : w1.cell? ⟨w.heap.size + 1, 1, none⟩ = some (.string ⟨#[]⟩) := (blk_cell hr1 1).trans rfl
  have r2 : w1.cell? ⟨w.heap.size + 1, 2, none⟩ = some (.string ⟨#[]⟩) := (blk_cell hr1 2).trans rfl
  have r3 : w1.cell? ⟨w.heap.size + 1, 3, none⟩ = some (.int .i64 0) := (blk_cell hr1 3).trans rfl
  have r4 : w1.cell? ⟨w.heap.size + 1, 4, none⟩ = some (.slice none 0 0) := (blk_cell hr1 4).trans rfl
  have g0 := blk_free hr1 0
  have g1 := blk_free hr1 1
  have g2 := blk_free hr1 2
  have g3 := blk_free hr1 3
  have g4 := blk_free hr1 4
  clear hb1 hr1 hF hc' HS HB0 HR0
  go_wp2_with (fail)
  have h2 := blk_set (blk_set (blk_set (blk_set (blk_set HR1.out 0 (.int .i64 f0)) 1 (.string f1)) 2 (.string f2)) 3 (.int .i64 f3)) 4 (.slice A' l.length c')
  refine bodyPost_ret (results_cell_row rfl _ _ (w.heap.size + 1) 29 #[.int .i64 f0, .string f1, .string f2, .int .i64 f3, .slice A' l.length c'] (0, 0) _ rfl (h2.trans rfl) Try.underlying29 rfl (sizeTy.trans rfl)) rfl ?_
  refine ⟨A', c', rfl, HC.out, ?_, ?_⟩
  · refine Kd.F_mono (Kd.F_step HF.out (fun b hb _ => ?_)) (fun b hb => ?_)
    · simp only [World.alloc, Array.size_push] at hb
      have hne : b ≠ w.heap.size + 1 := by omega
      rw [blk_far _ _ _ _ _ hne, blk_far _ _ _ _ _ hne, blk_far _ _ _ _ _ hne, blk_far _ _ _ _ _ hne, blk_far _ _ _ _ _ hne]
    · simp only [World.alloc, Array.size_push] at hb
      omega
  · iterate 5 refine Below.setCell ?_ (by simp only; omega) _
    exact HB1.out
end Go.Proofs.Ytbhagjhhgmmcgaa
namespace Go.Proofs.Ytbhagjhhgmmcgaa
open Go.RowKit PRef Go.Proofs.YtbhagjhhgmmcgaaW.PrintWords
set_option linter.unusedVariables false

/-- What lies in block g (type T): each element's cells, and what they lead to lies elsewhere; the first k ones' in blocks from B on. -/
def KRow {α : Type} (d : Kd α) (T : TypeId) (W : World) (g B0 B k : Nat) (l : List α) : Prop :=
  ∃ cur : Array Value, W.heap[g]? = some (.cells cur T (0, 0)) ∧ ∀ (j : Nat) x, l[j]? = some x → ∃ cs : List Value, cs.length = d.sz ∧ (∀ (i : Nat) u, cs[i]? = some u → cur[j * d.sz + i]? = some u) ∧ Kd.FK d W (fun b => b ≠ g ∧ (j < k → B ≤ b) ∧ (k ≤ j → b < B0)) x cs

section
variable {α : Type} {d : Kd α} {T : TypeId} {W W1 : World} {g B0 B k : Nat} {l : List α}

theorem KRow.F (h : KRow d T W g B0 B l.length l) (hg : B ≤ g) (hm : l.length ≤ 9223372036854775807) : Kd.F d W (fun b => B ≤ b) (some ⟨g, 0, none⟩) l.length l := by
  intro W' hW
  obtain ⟨cur, hb, hc⟩ := h
  have hb' : W'.heap[g]? = some (.cells cur T (0, 0)) := (hW g hg (blk_lt hb)).trans hb
  refine ⟨rfl, hm, fun _ => ⟨_, rfl, fun j p hp => ?_⟩⟩
  obtain ⟨cs, h1, h2, h3⟩ := hc j p hp
  have hj : j < l.length := (List.getElem?_eq_some_iff.1 hp).1
  refine ⟨cs, h1, h3 W' (fun k hk hlt => hW k (hk.2.1 hj) hlt), fun i u hu => ?_⟩
  rw [Addr.add_lit, Nat.zero_add, blk_cell hb']
  exact h2 i u hu

theorem KRow.step (h : KRow d T W g B0 B k l) (hk : ∀ b, b < W.heap.size → W1.heap[b]? = W.heap[b]?) : KRow d T W1 g B0 B k l := by
  obtain ⟨cur, hb, hc⟩ := h
  refine ⟨cur, (hk g (blk_lt hb)).trans hb, fun j x hx => ?_⟩
  obtain ⟨cs, h1, h2, h3⟩ := hc j x hx
  exact ⟨cs, h1, h2, Foot.step h3 (fun b _ hlt => hk b hlt)⟩

theorem KRow.lt (h : KRow d T W g B0 B k l) : g < W.heap.size := by
  obtain ⟨cur, hb, _⟩ := h
  exact blk_lt hb
theorem KRow.free (h : KRow d T W g B0 B k l) (j : Nat) : W.frozen? ⟨g, j, none⟩ = false := by
  obtain ⟨cur, hb, _⟩ := h
  exact blk_free hb j
theorem KRow.get (h : KRow d T W g B0 B k l) (j : Nat) (x : α) (hx : l[j]? = some x) : ∃ cs : List Value, cs.length = d.sz ∧ (∀ (i : Nat) u, cs[i]? = some u → W.cell? ⟨g, j * d.sz + i, none⟩ = some u) ∧ Kd.FK d W (fun b => b ≠ g ∧ (j < k → B ≤ b) ∧ (k ≤ j → b < B0)) x cs := by
  obtain ⟨cur, hb, hc⟩ := h
  obtain ⟨cs, h1, h2, h3⟩ := hc j x hx
  exact ⟨cs, h1, fun i u hu => (blk_cell hb _).trans (h2 i u hu), h3⟩

/-- Element k is laid anew (in a round that turned block g within that element's cells alone, and new blocks). -/
theorem KRow.put (h : KRow d T W g B0 B k l) (x : α) (hx : l[k]? = some x) {cur' : Array Value} (hb' : W1.heap[g]? = some (.cells cur' T (0, 0))) (hfar : ∀ b, b ≠ g → b < W.heap.size → W1.heap[b]? = W.heap[b]?)
    (hsame : ∀ q, (q < k * d.sz ∨ (k + 1) * d.sz ≤ q) → W1.cell? ⟨g, q, none⟩ = W.cell? ⟨g, q, none⟩) (cs' : List Value) (hl : cs'.length = d.sz) (hc' : ∀ (i : Nat) u, cs'[i]? = some u → cur'[k * d.sz + i]? = some u) (hf : Kd.FK d W1 (fun b => b ≠ g ∧ B ≤ b) x cs') :
    KRow d T W1 g B0 B (k + 1) l := by
  obtain ⟨cur, hb, hc⟩ := h
  refine ⟨cur', hb', fun j y hy => ?_⟩
  by_cases hj : j = k
  · subst hj
    have hxy : x = y := Option.some.inj (hx.symm.trans hy)
    subst hxy
    exact ⟨cs', hl, hc', Foot.mono hf (fun b hb => ⟨hb.1, fun _ => hb.2, fun h => by omega⟩)⟩
  · obtain ⟨cs, h1, h2, h3⟩ := hc j y hy
    refine ⟨cs, h1, fun i u hu => ?_, ?_⟩
    · have hi : i < d.sz := by rw [← h1]; exact (List.getElem?_eq_some_iff.1 hu).1
      have hq : j * d.sz + i < k * d.sz ∨ (k + 1) * d.sz ≤ j * d.sz + i := by
        rcases Nat.lt_or_gt_of_ne hj with hlt | hgt
        · left
          have := Nat.mul_le_mul_right d.sz (show j + 1 ≤ k from hlt)
          rw [Nat.add_mul] at this
          omega
        · right
          have := Nat.mul_le_mul_right d.sz (show k + 1 ≤ j from hgt)
          omega
      have h4 := hsame _ hq
      rw [blk_cell hb', blk_cell hb] at h4
      rw [h4]
      exact h2 i u hu
    · exact Foot.step (Foot.mono h3 (fun b hb => ⟨hb.1, fun hlt => hb.2.1 (by omega), fun h => hb.2.2 (by omega)⟩)) (fun b hb hlt => hfar b hb.1 hlt)

/-- A clone's row, as it begins. -/
theorem KRow.of_clone {e : TypeId} (hd : Kd.Heap d) (hsz : 0 < d.sz) {w0 w w1 : World} {A : Option Addr} {v : Value} (h : Cloned d e w0 w w1 A l v) (hbw : Below w0.heap.size w0 w) (hb : Below w.heap.size w w1) (hn : 0 < l.length) : ∃ g c, v = .slice (some ⟨g, 0, none⟩) l.length c ∧ l.length ≤ c ∧ w.heap.size ≤ g ∧ KRow d e w1 g w0.heap.size w.heap.size 0 l := by
  rcases h with ⟨_, _, rfl⟩ | ⟨css, h1, h2, h3, hown⟩
  · simp at hn
  · rcases hown.2 with ⟨_, h0⟩ | ⟨g, cap, cur, rfl, hg, hgb, hle, _, _⟩
    · omega
    · refine ⟨g, cap, rfl, hle, hg, cur, hgb, fun j x hx => ?_⟩
      obtain ⟨cs, hcs, hK⟩ := h3 j x hx
      have hcl : cs.length = d.sz := h2 cs (List.mem_of_getElem? hcs)
      refine ⟨cs, hcl, fun i u hu => ?_, fun W' hW => ?_⟩
      · have hi : i < d.sz := by rw [← hcl]; exact (List.getElem?_eq_some_iff.1 hu).1
        have hq : css.flatten[j * d.sz + i]? = some u := by
          rw [flatten_at d.sz hsz css h2]
          have e1 : (j * d.sz + i) / d.sz = j := by rw [Nat.mul_comm, Nat.mul_add_div hsz, Nat.div_eq_of_lt hi, Nat.add_zero]
          have e2 : (j * d.sz + i) % d.sz = i := by rw [Nat.mul_comm, Nat.mul_add_mod, Nat.mod_eq_of_lt hi]
          rw [e1, e2, hcs]
          exact hu
        have h4 := hown.cells (g := g) rfl _ _ hq
        rw [Addr.add_lit, Nat.zero_add, blk_cell hgb] at h4
        exact h4
      · exact hd.K (fun b hlt => (hW b ⟨by have := hbw.size; omega, fun h => by omega, fun _ => hlt⟩ (by have := hb.size; have := hbw.size; omega)).trans ((hb.block b (by have := hbw.size; omega)).trans (hbw.block b hlt))) hK

/-- A clone's row, as it begins, of what lies below B0. -/
theorem KRow.of_cloneF {e : TypeId} (hsz : 0 < d.sz) {B0 : Nat} {w0 w w1 : World} {A : Option Addr} {v : Value} (h : ClonedR (Kd.FK d w0 (fun b => b < B0)) d.sz e w w1 A l v) (h0 : B0 ≤ w0.heap.size) (hbw : Below w0.heap.size w0 w) (hb : Below w.heap.size w w1) (hn : 0 < l.length) : ∃ g c, v = .slice (some ⟨g, 0, none⟩) l.length c ∧ l.length ≤ c ∧ w.heap.size ≤ g ∧ KRow d e w1 g B0 w.heap.size 0 l := by
  rcases h with ⟨_, _, rfl⟩ | ⟨css, h1, h2, h3, hown⟩
  · simp at hn
  · rcases hown.2 with ⟨_, h0⟩ | ⟨g, cap, cur, rfl, hg, hgb, hle, _, _⟩
    · omega
    · refine ⟨g, cap, rfl, hle, hg, cur, hgb, fun j x hx => ?_⟩
      obtain ⟨cs, hcs, hK⟩ := h3 j x hx
      have hcl : cs.length = d.sz := h2 cs (List.mem_of_getElem? hcs)
      refine ⟨cs, hcl, fun i u hu => ?_, ?_⟩
      · have hi : i < d.sz := by rw [← hcl]; exact (List.getElem?_eq_some_iff.1 hu).1
        have hq : css.flatten[j * d.sz + i]? = some u := by
          rw [flatten_at d.sz hsz css h2]
          have e1 : (j * d.sz + i) / d.sz = j := by rw [Nat.mul_comm, Nat.mul_add_div hsz, Nat.div_eq_of_lt hi, Nat.add_zero]
          have e2 : (j * d.sz + i) % d.sz = i := by rw [Nat.mul_comm, Nat.mul_add_mod, Nat.mod_eq_of_lt hi]
          rw [e1, e2, hcs]
          exact hu
        have h4 := hown.cells (g := g) rfl _ _ hq
        rw [Addr.add_lit, Nat.zero_add, blk_cell hgb] at h4
        exact h4
      · exact Foot.mono (Foot.step hK (fun b hlt _ => (hb.block b (by have := hbw.size; omega)).trans (hbw.block b (by omega)))) (fun b hlt => ⟨by have := hbw.size; omega, fun h => by omega, fun _ => hlt⟩)

/-- The same of a row that may be empty. -/
def ORow {α : Type} (d : Kd α) (T : TypeId) (W : World) (A : Option Addr) (B0 B k : Nat) (l : List α) : Prop := 0 < l.length → ∃ g, A = some ⟨g, 0, none⟩ ∧ B ≤ g ∧ KRow d T W g B0 B k l
theorem ORow.F {A : Option Addr} (h : ORow d T W A B0 B l.length l) (hm : l.length ≤ 9223372036854775807) : Kd.F d W (fun b => B ≤ b) A l.length l := by
  by_cases hn : 0 < l.length
  · obtain ⟨g, rfl, hg, hr⟩ := h hn
    exact hr.F hg hm
  · intro W' _
    exact ⟨rfl, hm, fun h => absurd h hn⟩
theorem ORow.stepB {A : Option Addr} (h : ORow d T W A B0 B k l) (hk : ∀ b, (b < B0 ∨ B ≤ b) → b < W.heap.size → W1.heap[b]? = W.heap[b]?) : ORow d T W1 A B0 B k l := fun hn => by
  obtain ⟨g, e, hg, cur, hb, hc⟩ := h hn
  refine ⟨g, e, hg, cur, (hk g (.inr hg) (blk_lt hb)).trans hb, fun j x hx => ?_⟩
  obtain ⟨cs, h1, h2, h3⟩ := hc j x hx
  exact ⟨cs, h1, h2, Foot.step h3 (fun b hb hlt => hk b (if hjk : j < k then .inr (hb.2.1 hjk) else .inl (hb.2.2 (by omega))) hlt)⟩
theorem ORow.of_cloneF {e : TypeId} (hsz : 0 < d.sz) {B0 : Nat} {w0 w w1 : World} {A : Option Addr} {v : Value} (h : ClonedR (Kd.FK d w0 (fun b => b < B0)) d.sz e w w1 A l v) (h0 : B0 ≤ w0.heap.size) (hbw : Below w0.heap.size w0 w) (hb : Below w.heap.size w w1) : ∃ A' c, v = .slice A' l.length c ∧ l.length ≤ c ∧ ORow d e w1 A' B0 w.heap.size 0 l := by
  by_cases hn : 0 < l.length
  · obtain ⟨g, c, rfl, h1, h2, h3⟩ := KRow.of_cloneF hsz h h0 hbw hb hn
    exact ⟨_, c, rfl, h1, fun _ => ⟨g, rfl, h2, h3⟩⟩
  · have hl : l = [] := List.eq_nil_of_length_eq_zero (by omega)
    subst hl
    rcases h with ⟨_, rfl, _⟩ | ⟨css, _, _, _, hown⟩
    · exact ⟨none, 0, rfl, Nat.le_refl _, fun h => absurd h (by simp)⟩
    · obtain ⟨A', c', rfl, _⟩ := own_slice hown
      exact ⟨A', c', rfl, Nat.zero_le _, fun h => absurd h (by simp)⟩
theorem ORow.of_clone {e : TypeId} (hd : Kd.Heap d) (hsz : 0 < d.sz) {w0 w w1 : World} {A : Option Addr} {v : Value} (h : Cloned d e w0 w w1 A l v) (hbw : Below w0.heap.size w0 w) (hb : Below w.heap.size w w1) : ∃ A' c, v = .slice A' l.length c ∧ l.length ≤ c ∧ ORow d e w1 A' w0.heap.size w.heap.size 0 l := by
  by_cases hn : 0 < l.length
  · obtain ⟨g, c, rfl, h1, h2, h3⟩ := KRow.of_clone hd hsz h hbw hb hn
    exact ⟨_, c, rfl, h1, fun _ => ⟨g, rfl, h2, h3⟩⟩
  · have hl : l = [] := List.eq_nil_of_length_eq_zero (by omega)
    subst hl
    rcases h with ⟨_, rfl, _⟩ | ⟨css, _, _, _, hown⟩
    · exact ⟨none, 0, rfl, Nat.le_refl _, fun h => absurd h (by simp)⟩
    · obtain ⟨A', c', rfl, _⟩ := own_slice hown
      exact ⟨A', c', rfl, Nat.zero_le _, fun h => absurd h (by simp)⟩
end

theorem heap_fld : Kd.Heap kFld := Kd.heap_iso _ (Kd.heap_pair Kd.heap_string heap_ty)
theorem heap_mth : Kd.Heap kMth := Kd.heap_iso _ (Kd.heap_pair Kd.heap_string (Kd.heap_pair (Kd.heap_slice _ heap_ty) heap_ty))

section
theorem mth_openF {W : World} {ok : Nat → Prop} {x : Mth} {cs : List Value} (h : Kd.FK kMth W ok x cs) : ∃ A1 c1 A6 c6, cs = [.string x.f0, .slice A1 x.f1.length c1, .int .i64 x.f2.f0, .string x.f2.f1, .string x.f2.f2, .int .i64 x.f2.f3, .slice A6 x.f2.f4.length c6] ∧ x.f1.length ≤ c1 ∧ Kd.F kTy W ok A1 x.f1.length x.f1 ∧ x.f2.f4.length ≤ c6 ∧ Kd.F kTy W ok A6 x.f2.f4.length x.f2.f4 := by
  obtain ⟨A1, c1, A6, c6, rfl, l1, _, l6, _⟩ := k50_open (Kd.FK_now h)
  exact ⟨A1, c1, A6, c6, rfl, l1, (fun W' hW => by obtain ⟨A1_, c1_, A6_, c6_, he, l1_, g1_, l6_, g6_⟩ := k50_open (h W' hW); injection (Option.some.inj (show some (Value.slice A1 x.f1.length c1) = some (Value.slice A1_ x.f1.length c1_) from congrArg (fun l => l[1]?) he)) with ha_ _ _; rw [ha_]; exact g1_), l6, (fun W' hW => by obtain ⟨A1_, c1_, A6_, c6_, he, l1_, g1_, l6_, g6_⟩ := k50_open (h W' hW); injection (Option.some.inj (show some (Value.slice A6 x.f2.f4.length c6) = some (Value.slice A6_ x.f2.f4.length c6_) from congrArg (fun l => l[6]?) he)) with ha_ _ _; rw [ha_]; exact g6_)⟩
theorem mth_mkF (W : World) (ok : Nat → Prop) (x : Mth) {A1 : Option Addr} {c1 : Nat} (l1 : x.f1.length ≤ c1) (g1 : Kd.F kTy W ok A1 x.f1.length x.f1) {A6 : Option Addr} {c6 : Nat} (l6 : x.f2.f4.length ≤ c6) (g6 : Kd.F kTy W ok A6 x.f2.f4.length x.f2.f4) : Kd.FK kMth W ok x [.string x.f0, .slice A1 x.f1.length c1, .int .i64 x.f2.f0, .string x.f2.f1, .string x.f2.f2, .int .i64 x.f2.f3, .slice A6 x.f2.f4.length c6] :=
  fun W2 hW => k50_mk W2 x l1 (g1 W2 hW) l6 (g6 W2 hW)
theorem fld_openF {W : World} {ok : Nat → Prop} {x : Fld} {cs : List Value} (h : Kd.FK kFld W ok x cs) : ∃ A5 c5, cs = [.string x.f0, .int .i64 x.f1.f0, .string x.f1.f1, .string x.f1.f2, .int .i64 x.f1.f3, .slice A5 x.f1.f4.length c5] ∧ x.f1.f4.length ≤ c5 ∧ Kd.F kTy W ok A5 x.f1.f4.length x.f1.f4 := by
  obtain ⟨A5, c5, rfl, l5, _⟩ := k83_open (Kd.FK_now h)
  exact ⟨A5, c5, rfl, l5, (fun W' hW => by obtain ⟨A5_, c5_, he, l5_, g5_⟩ := k83_open (h W' hW); injection (Option.some.inj (show some (Value.slice A5 x.f1.f4.length c5) = some (Value.slice A5_ x.f1.f4.length c5_) from congrArg (fun l => l[5]?) he)) with ha_ _ _; rw [ha_]; exact g5_)⟩
end
end Go.Proofs.Ytbhagjhhgmmcgaa
