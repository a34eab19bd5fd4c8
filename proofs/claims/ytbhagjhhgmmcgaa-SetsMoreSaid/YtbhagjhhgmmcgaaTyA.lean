/- Rows as lists of cells; slices.Clone of types. -/
import Derived.Test.YtbhagjhhgmmcgaaBase
import Derived.Test.YtbhagjhhgmmcgaaPRefx0
import Derived.Deep.RegionLaw
import Derived.WalkMore
import Derived.Laws.ResultCell
import Derived.Lib.SliceRun
import Derived.Lib.LazyBuf
namespace Go.Proofs.Ytbhagjhhgmmcgaa
open Go.RowKit PRef Go.Proofs.YtbhagjhhgmmcgaaW.PrintWords
set_option linter.unusedVariables false

abbrev Ty := S29
abbrev kTy := k29

theorem infoTy : (Try.prog.info? 29).map (fun i => (i.zero, i.size, i.bytes)) = some (some (.agg #[.int .i64 0, .string ⟨#[]⟩, .string ⟨#[]⟩, .int .i64 0, .slice none 0 0]), 5, 72) := by kernel_rfl

theorem flatten_at {β : Type} (sz : Nat) (hsz : 0 < sz) : ∀ (css : List (List β)), (∀ cs ∈ css, cs.length = sz) → ∀ q, css.flatten[q]? = (css[q / sz]?).bind fun cs => cs[q % sz]?
  | [], _, q => by simp
  | cs :: css, h, q => by
    have hl := h cs List.mem_cons_self
    rw [List.flatten_cons]
    by_cases hq : q < sz
    · rw [List.getElem?_append_left (by omega), Nat.div_eq_of_lt hq, Nat.mod_eq_of_lt hq]
      rfl
    · rw [List.getElem?_append_right (by omega), hl, flatten_at sz hsz css (fun c hc => h c (List.mem_cons_of_mem _ hc)) (q - sz)]
      have e1 : q / sz = (q - sz) / sz + 1 := by rw [← Nat.add_div_right _ hsz]; congr 1; omega
      have e2 : q % sz = (q - sz) % sz := by rw [← Nat.add_mod_right (q - sz) sz]; congr 1; omega
      rw [e1, e2, List.getElem?_cons_succ]
theorem flatten_length {β : Type} (sz : Nat) : ∀ (css : List (List β)), (∀ cs ∈ css, cs.length = sz) → css.flatten.length = css.length * sz
  | [], _ => by simp
  | cs :: css, h => by
    rw [List.flatten_cons, List.length_append, h cs List.mem_cons_self, flatten_length sz css (fun c hc => h c (List.mem_cons_of_mem _ hc)), List.length_cons, Nat.add_mul]
    omega

/-- A row's elements' cells. -/
theorem R_cells {α : Type} {R : α → List Value → Prop} {sz : Nat} {w : World} {ad : Addr} {xs : List α} (hsz : 0 < sz) (h : ReadsRow R sz w (some ad) xs.length xs) (hn : 0 < xs.length) : ∃ css : List (List Value), css.length = xs.length ∧ (∀ cs ∈ css, cs.length = sz) ∧ (∀ (j : Nat) x, xs[j]? = some x → ∃ cs, css[j]? = some cs ∧ R x cs) ∧ (∀ cs ∈ css, ∃ x ∈ xs, R x cs) ∧ (∀ (q : Nat) u, css.flatten[q]? = some u → w.cell? (ad.add q) = some u) := by
  obtain ⟨ad', e, hc⟩ := h.2.2 hn
  cases e
  have hx : ∀ i : Fin xs.length, ∃ cs : List Value, cs.length = sz ∧ R xs[i.1] cs ∧ ∀ i' u, cs[i']? = some u → w.cell? (ad.add (i.1 * sz + i')) = some u := fun i => hc i.1 xs[i.1] (List.getElem?_eq_getElem i.2)
  obtain ⟨f, hf⟩ := Classical.axiomOfChoice hx
  have hm : ∀ cs ∈ List.ofFn f, ∃ i, f i = cs := fun cs hcs => by simpa [List.mem_ofFn] using hcs
  refine ⟨List.ofFn f, List.length_ofFn, fun cs hcs => ?_, fun j x hj => ?_, fun cs hcs => ?_, fun q u hq => ?_⟩
  · obtain ⟨i, rfl⟩ := hm cs hcs
    exact (hf i).1
  · obtain ⟨hlt, rfl⟩ := List.getElem?_eq_some_iff.1 hj
    exact ⟨f ⟨j, hlt⟩, by rw [List.getElem?_ofFn, dif_pos hlt], (hf ⟨j, hlt⟩).2.1⟩
  · obtain ⟨i, rfl⟩ := hm cs hcs
    exact ⟨xs[i.1], List.getElem_mem i.2, (hf i).2.1⟩
  · rw [flatten_at sz hsz _ (fun cs hcs => by obtain ⟨i, rfl⟩ := hm cs hcs; exact (hf i).1) q, List.getElem?_ofFn] at hq
    split at hq
    · rename_i hlt
      have h2 := (hf ⟨q / sz, hlt⟩).2.2 (q % sz) u hq
      rwa [Nat.div_add_mod' q sz] at h2
    · cases hq

theorem C_cells {α : Type} {d : Kd α} {w : World} {ad : Addr} {xs : List α} (hsz : 0 < d.sz) (h : Kd.C d w (some ad) xs.length xs) (hn : 0 < xs.length) : ∃ css : List (List Value), css.length = xs.length ∧ (∀ cs ∈ css, cs.length = d.sz) ∧ (∀ (j : Nat) x, xs[j]? = some x → ∃ cs, css[j]? = some cs ∧ d.K w x cs) ∧ (∀ cs ∈ css, ∃ x ∈ xs, d.K w x cs) ∧ (∀ (q : Nat) u, css.flatten[q]? = some u → w.cell? (ad.add q) = some u) := R_cells hsz h hn

theorem ty_one {w : World} {x : Ty} {cs : List Value} (h : kTy.K w x cs) : ∀ u ∈ cs, u.oneCell' = true := by
  obtain ⟨A4, c4, rfl, _⟩ := k29_open h
  simp [Value.oneCell']

/-- What slices.Clone hands back: nil of nil; else a row of its own, of the same cells. -/
def ClonedR {α : Type} (R : α → List Value → Prop) (sz : Nat) (e : TypeId) (w w' : World) (A : Option Addr) (l : List α) (v : Value) : Prop :=
  (A = none ∧ v = .slice none 0 0 ∧ l = []) ∨ (∃ css : List (List Value), css.length = l.length ∧ (∀ cs ∈ css, cs.length = sz) ∧ (∀ (j : Nat) x, l[j]? = some x → ∃ cs, css[j]? = some cs ∧ R x cs) ∧ w'.ownsRow w.heap.size e sz v l.length css.flatten)
def Cloned {α : Type} (d : Kd α) (e : TypeId) (w0 w w' : World) (A : Option Addr) (l : List α) (v : Value) : Prop :=
  (A = none ∧ v = .slice none 0 0 ∧ l = []) ∨ (∃ css : List (List Value), css.length = l.length ∧ (∀ cs ∈ css, cs.length = d.sz) ∧ (∀ (j : Nat) x, l[j]? = some x → ∃ cs, css[j]? = some cs ∧ d.K w0 x cs) ∧ w'.ownsRow w.heap.size e d.sz v l.length css.flatten)

set_option maxRecDepth 100000 in
set_option maxHeartbeats 1000000 in
theorem cloneTy_R {R : Ty → List Value → Prop} (hone : ∀ x cs, R x cs → ∀ u ∈ cs, u.oneCell' = true) (l : List Ty) (A : Option Addr) (c : Nat) (w0 w : World) (h : ReadsRow R 5 w0 A l.length l) (hbw : Below w0.heap.size w0 w) (hc : l.length ≤ c) (hl : l.length * 72 ≤ 140737488355328) :
    Calls Try.prog 75 #[.slice A l.length c] w fun e w' => ∃ v, e = .returned v ∧ ClonedR R 5 29 w w' A l v ∧ Below w.heap.size w w' := by
  obtain ⟨i0, hi, hz0, hz1, hz2⟩ := info_parts infoTy
  have qeq : ∀ (w : World) (a : Option Addr) (n c : Nat), (binOp .eql 24 (.slice a n c) (.slice none 0 0)).run Try.prog w = .ok (.bool a.isNone) w := fun w a n c => run_eql_slice_nil w _ _ a n c Try.underlying24
  cases A with
  | none =>
    have hl0 : l = [] := by
      apply List.eq_nil_of_length_eq_zero
      apply Classical.byContradiction
      intro hn
      obtain ⟨_, e, _⟩ := h.2.2 (by omega)
      cases e
    subst hl0
    clear h hbw
    go_enter Try.func75, Try.ntmps75
    go_wp2_with (fail)
    go_ret
    exact ⟨_, rfl, .inl ⟨rfl, rfl, rfl⟩, Below.refl _ _⟩
  | some ad =>
    have hcs : ∃ css : List (List Value), css.length = l.length ∧ (∀ cs ∈ css, cs.length = 5) ∧ (∀ (j : Nat) x, l[j]? = some x → ∃ cs, css[j]? = some cs ∧ R x cs) ∧ (∀ u ∈ css.flatten, u.oneCell' = true) ∧ (∀ (q : Nat) u, css.flatten[q]? = some u → w.cell? (ad.add q) = some u) := by
      by_cases hn : 0 < l.length
      · obtain ⟨css, h1, h2, h3, h4, h5⟩ := R_cells (by decide) h hn
        refine ⟨css, h1, h2, h3, fun u hu => ?_, fun q u hq => cell_later hbw (h5 q u hq)⟩
        obtain ⟨cs, hcs, hu⟩ := List.mem_flatten.1 hu
        obtain ⟨x, _, hK⟩ := h4 cs hcs
        exact hone _ _ hK u hu
      · have hl0 : l = [] := List.eq_nil_of_length_eq_zero (by omega)
        subst hl0
        exact ⟨[], rfl, by simp, by simp, by simp, by simp⟩
    obtain ⟨css, h1, h2, h3, h4, h5⟩ := hcs
    have hfl := flatten_length 5 css h2
    have H5 := Lib.hid h5
    have H4 := Lib.hid h4
    have HFL := Lib.hid (hfl.trans (by rw [h1]))
    have HRES := Lib.hid (And.intro h1 (And.intro h2 h3))
    clear h hbw h1 h2 h3 h4 h5 hfl
    go_enter Try.func75, Try.ntmps75
    go_wp2_with (at_builtin; refine wpList_append_own _ rfl _ _ 24 rfl w.heap.size 29 i0 (.agg #[.int .i64 0, .string ⟨#[]⟩, .string ⟨#[]⟩, .int .i64 0, .slice none 0 0]) 5 72 Try.underlying24 hi hz0 hz1 hz2 rfl (by decide) _ _ _ rfl (World.ownsRow_made w #[] 0 (Nat.le_refl _) (Nat.zero_le _) rfl) ad l.length c css.flatten rfl ?c1 ?c2 ?c3 ?c4 ?c5 ?c6 ?_)
    case c1 => exact HFL.out
    case c2 =>
      intro j u hj
      have h6 := H5.out j u hj
      exact Lib.cell?_alloc_some _ h6
    case c3 => exact H4.out
    case c4 => unfold maxLen; omega
    case c5 => omega
    case c6 => simp
    intro v' w1 hown hgrow hnil
    have HOWN : Hid (w1.ownsRow w.heap.size 29 5 v' l.length css.flatten) := Lib.hid (by simpa using hown)
    have HB : Hid (Below w.heap.size w w1) := Lib.hid (((Below.refl _ w).alloc (Nat.le_refl _) _).grown hgrow (by simp) (by intro k hk; simp [Value.ownBlock] at hk; omega))
    clear hown hgrow hnil
    go_wp2_with (fail)
    go_ret
    exact ⟨_, rfl, .inr ⟨css, HRES.out.1, HRES.out.2.1, HRES.out.2.2, HOWN.out⟩, HB.out⟩
theorem cloneTy_any (l : List Ty) (A : Option Addr) (c : Nat) (w0 w : World) (h : Kd.C kTy w0 A l.length l) (hbw : Below w0.heap.size w0 w) (hc : l.length ≤ c) (hl : l.length * 72 ≤ 140737488355328) :
    Calls Try.prog 75 #[.slice A l.length c] w fun e w' => ∃ v, e = .returned v ∧ Cloned kTy 29 w0 w w' A l v ∧ Below w.heap.size w w' :=
  cloneTy_R (R := kTy.K w0) (fun x cs h => ty_one h) l A c w0 w h hbw hc hl
end Go.Proofs.Ytbhagjhhgmmcgaa
