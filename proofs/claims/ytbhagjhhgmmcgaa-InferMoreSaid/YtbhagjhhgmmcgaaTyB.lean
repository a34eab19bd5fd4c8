/- Rows as lists of cells; slices.Clone of types. term.Subst without arguments: the same type, in new memory. -/
import Derived.Test.YtbhagjhhgmmcgaaBase
import Derived.Test.YtbhagjhhgmmcgaaPRefx0
import Derived.Deep.RegionLaw
import Derived.WalkMore
import Derived.Laws.ResultCell
import Derived.Lib.SliceRun
import Derived.Lib.LazyBuf
namespace Go.Proofs.Ytbhagjhhgmmcgaa
open Go.RowKit PRef Go.Proofs.YtbhagjhhgmmcgaaW.PrintWords
set_option linter.unusedVariables false

abbrev Ty := S29
abbrev kTy := k29

theorem infoTy : (Try.prog.info? 29).map (fun i => (i.zero, i.size, i.bytes)) = some (some (.agg #[.int .i64 0, .string ⟨#[]⟩, .string ⟨#[]⟩, .int .i64 0, .slice none 0 0]), 5, 72) := by kernel_rfl

theorem flatten_at {β : Type} (sz : Nat) (hsz : 0 < sz) : ∀ (css : List (List β)), (∀ cs ∈ css, cs.length = sz) → ∀ q, css.flatten[q]? = (css[q / sz]?).bind fun cs => cs[q % sz]?
  | [], _, q => by simp
  | cs :: css, h, q => by
    have hl := h cs List.mem_cons_self
    rw [List.flatten_cons]
    by_cases hq : q < sz
    · rw [List.getElem?_append_left (by omega), Nat.div_eq_of_lt hq, Nat.mod_eq_of_lt hq]
      rfl
    · rw [List.getElem?_append_right (by omega), hl, flatten_at sz hsz css (fun c hc => h c (List.mem_cons_of_mem _ hc)) (q - sz)]
      have e1 : q / sz = (q - sz) / sz + 1 := by rw [← Nat.add_div_right _ hsz]; congr 1; omega
      have e2 : q % sz = (q - sz) % sz := by rw [← Nat.add_mod_right (q - sz) sz]; congr 1; omega
      rw [e1, e2, List.getElem?_cons_succ]
theorem flatten_length {β : Type} (sz : Nat) : ∀ (css : List (List β)), (∀ cs ∈ css, cs.length = sz) → css.flatten.length = css.length * sz
  | [], _ => by simp
  | cs :: css, h => by
    rw [List.flatten_cons, List.length_append, h cs List.mem_cons_self, flatten_length sz css (fun c hc => h c (List.mem_cons_of_mem _ hc)), List.length_cons, Nat.add_mul]
    omega

/-- A row's elements' cells. -/
theorem R_cells {α : Type} {R : α → List Value → Prop} {sz : Nat} {w : World} {ad : Addr} {xs : List α} (hsz : 0 < sz) (h : ReadsRow R sz w (some ad) xs.length xs) (hn : 0 < xs.length) : ∃ css : List (List Value), css.length = xs.length ∧ (∀ cs ∈ css, cs.length = sz) ∧ (∀ (j : Nat) x, xs[j]? = some x → ∃ cs, css[j]? = some cs ∧ R x cs) ∧ (∀ cs ∈ css, ∃ x ∈ xs, R x cs) ∧ (∀ (q : Nat) u, css.flatten[q]? = some u → w.cell? (ad.add q) = some u) := by
  obtain ⟨ad', e, hc⟩ := h.2.2 hn
  cases e
  have hx : ∀ i : Fin xs.length, ∃ cs : List Value, cs.length = sz ∧ R xs[i.1] cs ∧ ∀ i' u, cs[i']? = some u → w.cell? (ad.add (i.1 * sz + i')) = some u := fun i => hc i.1 xs[i.1] (List.getElem?_eq_getElem i.2)
  obtain ⟨f, hf⟩ := Classical.axiomOfChoice hx
  have hm : ∀ cs ∈ List.ofFn f, ∃ i, f i = cs := fun cs hcs => by simpa [List.mem_ofFn] using hcs
  refine ⟨List.ofFn f, List.length_ofFn, fun cs hcs => ?_, fun j x hj => ?_, fun cs hcs => ?_, fun q u hq => ?_⟩
  · obtain ⟨i, rfl⟩ := hm cs hcs
    exact (hf i).1
  · obtain ⟨hlt, rfl⟩ := List.getElem?_eq_some_iff.1 hj
    exact ⟨f ⟨j, hlt⟩, by rw [List.getElem?_ofFn, dif_pos hlt], (hf ⟨j, hlt⟩).2.1⟩
  · obtain ⟨i, rfl⟩ := hm cs hcs
    exact ⟨xs[i.1], List.getElem_mem i.2, (hf i).2.1⟩
  · rw [flatten_at sz hsz _ (fun cs hcs => by obtain ⟨i, rfl⟩ := hm cs hcs; exact (hf i).1) q, List.getElem?_ofFn] at hq
    split at hq
    · rename_i hlt
      have h2 := (hf ⟨q / sz, hlt⟩).2.2 (q % sz) u hq
      rwa [Nat.div_add_mod' q sz] at h2
    · cases hq

theorem C_cells {α : Type} {d : Kd α} {w : World} {ad : Addr} {xs : List α} (hsz : 0 < d.sz) (h : Kd.C d w (some ad) xs.length xs) (hn : 0 < xs.length) : ∃ css : List (List Value), css.length = xs.length ∧ (∀ cs ∈ css, cs.length = d.sz) ∧ (∀ (j : Nat) x, xs[j]? = some x → ∃ cs, css[j]? = some cs ∧ d.K w x cs) ∧ (∀ cs ∈ css, ∃ x ∈ xs, d.K w x cs) ∧ (∀ (q : Nat) u, css.flatten[q]? = some u → w.cell? (ad.add q) = some u) := R_cells hsz h hn

theorem ty_one {w : World} {x : Ty} {cs : List Value} (h : kTy.K w x cs) : ∀ u ∈ cs, u.oneCell' = true := by
  obtain ⟨A4, c4, rfl, _⟩ := k29_open h
  simp [Value.oneCell']

/-- What slices.Clone hands back: nil of nil; else a row of its own, of the same cells. -/
def ClonedR {α : Type} (R : α → List Value → Prop) (sz : Nat) (e : TypeId) (w w' : World) (A : Option Addr) (l : List α) (v : Value) : Prop :=
  (A = none ∧ v = .slice none 0 0 ∧ l = []) ∨ (∃ css : List (List Value), css.length = l.length ∧ (∀ cs ∈ css, cs.length = sz) ∧ (∀ (j : Nat) x, l[j]? = some x → ∃ cs, css[j]? = some cs ∧ R x cs) ∧ w'.ownsRow w.heap.size e sz v l.length css.flatten)
def Cloned {α : Type} (d : Kd α) (e : TypeId) (w0 w w' : World) (A : Option Addr) (l : List α) (v : Value) : Prop :=
  (A = none ∧ v = .slice none 0 0 ∧ l = []) ∨ (∃ css : List (List Value), css.length = l.length ∧ (∀ cs ∈ css, cs.length = d.sz) ∧ (∀ (j : Nat) x, l[j]? = some x → ∃ cs, css[j]? = some cs ∧ d.K w0 x cs) ∧ w'.ownsRow w.heap.size e d.sz v l.length css.flatten)

set_option maxRecDepth 100000 in
set_option maxHeartbeats 1000000 in
theorem cloneTy_R {R : Ty → List Value → Prop} (hone : ∀ x cs, R x cs → ∀ u ∈ cs, u.oneCell' = true) (l : List Ty) (A : Option Addr) (c : Nat) (w0 w : World) (h : ReadsRow R 5 w0 A l.length l) (hbw : Below w0.heap.size w0 w) (hc : l.length ≤ c) (hl : l.length * 72 ≤ 140737488355328) :
    Calls Try.prog 75 #[.slice A l.length c] w fun e w' => ∃ v, e = .returned v ∧ ClonedR R 5 29 w w' A l v ∧ Below w.heap.size w w' := by
  obtain ⟨i0, hi, hz0, hz1, hz2⟩ := info_parts infoTy
  have qeq : ∀ (w : World) (a : Option Addr) (n c : Nat), (binOp .eql 24 (.slice a n c) (.slice none 0 0)).run Try.prog w = .ok (.bool a.isNone) w := fun w a n c => run_eql_slice_nil w _ _ a n c Try.underlying24
  cases A with
  | none =>
    have hl0 : l = [] := by
      apply List.eq_nil_of_length_eq_zero
      apply Classical.byContradiction
      intro hn
      obtain ⟨_, e, _⟩ := h.2.2 (by omega)
      cases e
    subst hl0
    clear h hbw
    go_enter Try.func75, Try.ntmps75
    go_wp2_with (fail)
    go_ret
    exact ⟨_, rfl, .inl ⟨rfl, rfl, rfl⟩, Below.refl _ _⟩
  | some ad =>
    have hcs : ∃ css : List (List Value), css.length = l.length ∧ (∀ cs ∈ css, cs.length = 5) ∧ (∀ (j : Nat) x, l[j]? = some x → ∃ cs, css[j]? = some cs ∧ R x cs) ∧ (∀ u ∈ css.flatten, u.oneCell' = true) ∧ (∀ (q : Nat) u, css.flatten[q]? = some u → w.cell? (ad.add q) = some u) := by
      by_cases hn : 0 < l.length
      · obtain ⟨css, h1, h2, h3, h4, h5⟩ := R_cells (by decide) h hn
        refine ⟨css, h1, h2, h3, fun u hu => ?_, fun q u hq => cell_later hbw (h5 q u hq)⟩
        obtain ⟨cs, hcs, hu⟩ := List.mem_flatten.1 hu
        obtain ⟨x, _, hK⟩ := h4 cs hcs
        exact hone _ _ hK u hu
      · have hl0 : l = [] := List.eq_nil_of_length_eq_zero (by omega)
        subst hl0
        exact ⟨[], rfl, by simp, by simp, by simp, by simp⟩
    obtain ⟨css, h1, h2, h3, h4, h5⟩ := hcs
    have hfl := flatten_length 5 css h2
    have H5 := Lib.hid h5
    have H4 := Lib.hid h4
    have HFL := Lib.hid (hfl.trans (by rw [h1]))
    have HRES := Lib.hid (And.intro h1 (And.intro h2 h3))
    clear h hbw h1 h2 h3 h4 h5 hfl
    go_enter Try.func75, Try.ntmps75
    go_wp2_with (at_builtin; refine wpList_append_own _ rfl _ _ 24 rfl w.heap.size 29 i0 (.agg #[.int .i64 0, .string ⟨#[]⟩, .string ⟨#[]⟩, .int .i64 0, .slice none 0 0]) 5 72 Try.underlying24 hi hz0 hz1 hz2 rfl (by decide) _ _ _ rfl (World.ownsRow_made w #[] 0 (Nat.le_refl _) (Nat.zero_le _) rfl) ad l.length c css.flatten rfl ?c1 ?c2 ?c3 ?c4 ?c5 ?c6 ?_)
    case c1 => exact HFL.out
    case c2 =>
      intro j u hj
      have h6 := H5.out j u hj
      exact Lib.cell?_alloc_some _ h6
    case c3 => exact H4.out
    case c4 => unfold maxLen; omega
    case c5 => omega
    case c6 => simp
    intro v' w1 hown hgrow hnil
    have HOWN : Hid (w1.ownsRow w.heap.size 29 5 v' l.length css.flatten) := Lib.hid (by simpa using hown)
    have HB : Hid (Below w.heap.size w w1) := Lib.hid (((Below.refl _ w).alloc (Nat.le_refl _) _).grown hgrow (by simp) (by intro k hk; simp [Value.ownBlock] at hk; omega))
    clear hown hgrow hnil
    go_wp2_with (fail)
    go_ret
    exact ⟨_, rfl, .inr ⟨css, HRES.out.1, HRES.out.2.1, HRES.out.2.2, HOWN.out⟩, HB.out⟩
theorem cloneTy_any (l : List Ty) (A : Option Addr) (c : Nat) (w0 w : World) (h : Kd.C kTy w0 A l.length l) (hbw : Below w0.heap.size w0 w) (hc : l.length ≤ c) (hl : l.length * 72 ≤ 140737488355328) :
    Calls Try.prog 75 #[.slice A l.length c] w fun e w' => ∃ v, e = .returned v ∧ Cloned kTy 29 w0 w w' A l v ∧ Below w.heap.size w w' :=
  cloneTy_R (R := kTy.K w0) (fun x cs h => ty_one h) l A c w0 w h hbw hc hl
end Go.Proofs.Ytbhagjhhgmmcgaa
namespace Go.Proofs.Ytbhagjhhgmmcgaa
open Go.RowKit PRef Go.Proofs.YtbhagjhhgmmcgaaW.PrintWords
set_option linter.unusedVariables false

/-- A type none of whose rows is too long to be copied. -/
inductive TyOk : Ty → Prop where
  | mk (t : Ty) (h : t.f4.length * 72 ≤ 140737488355328) (hs : ∀ x ∈ t.f4, TyOk x) : TyOk t

/-- What lies in block g: each element's cells, and what they lead to lies elsewhere; the first k ones' in blocks from B on. -/
def TyRow (W : World) (g B0 B k : Nat) (l : List Ty) : Prop :=
  ∃ cur : Array Value, W.heap[g]? = some (.cells cur 29 (0, 0)) ∧ ∀ (j : Nat) x, l[j]? = some x → ∃ cs : List Value, cs.length = 5 ∧ (∀ (i : Nat) u, cs[i]? = some u → cur[j * 5 + i]? = some u) ∧ Kd.FK kTy W (fun b => b ≠ g ∧ (b < B0 ∨ B ≤ b) ∧ (j < k → B ≤ b)) x cs

theorem TyRow.F {W : World} {g B0 B : Nat} {l : List Ty} (h : TyRow W g B0 B l.length l) (hg : B ≤ g) (hm : l.length ≤ 9223372036854775807) : Kd.F kTy W (fun b => B ≤ b) (some ⟨g, 0, none⟩) l.length l := by
  intro W' hW
  obtain ⟨cur, hb, hc⟩ := h
  have hb' : W'.heap[g]? = some (.cells cur 29 (0, 0)) := (hW g hg (blk_lt hb)).trans hb
  refine ⟨rfl, hm, fun _ => ⟨_, rfl, fun j p hp => ?_⟩⟩
  obtain ⟨cs, h1, h2, h3⟩ := hc j p hp
  have hj : j < l.length := (List.getElem?_eq_some_iff.1 hp).1
  refine ⟨cs, h1, h3 W' (fun k hk hlt => hW k (hk.2.2 hj) hlt), fun i u hu => ?_⟩
  rw [Addr.add_lit, Nat.zero_add, blk_cell hb']
  exact h2 i u hu

theorem TyRow.step {W W1 : World} {g B0 B k : Nat} {l : List Ty} (h : TyRow W g B0 B k l) (hk : ∀ b, b < W.heap.size → W1.heap[b]? = W.heap[b]?) : TyRow W1 g B0 B k l := by
  obtain ⟨cur, hb, hc⟩ := h
  refine ⟨cur, (hk g (blk_lt hb)).trans hb, fun j x hx => ?_⟩
  obtain ⟨cs, h1, h2, h3⟩ := hc j x hx
  exact ⟨cs, h1, h2, Foot.step h3 (fun b _ hlt => hk b hlt)⟩

set_option maxHeartbeats 1000000 in
/-- An element is laid anew. -/
theorem TyRow.put {W : World} {g B0 B k : Nat} {l : List Ty} (h : TyRow W g B0 B k l) (hk : k < l.length) (x : Ty) (hx : l[k]? = some x) (u0 u1 u2 u3 u4 : Value) (hf : Kd.FK kTy W (fun b => b ≠ g ∧ B ≤ b) x [u0, u1, u2, u3, u4]) :
    TyRow (((((W.setCell ⟨g, k * 5, none⟩ u0).setCell ⟨g, k * 5 + 1, none⟩ u1).setCell ⟨g, k * 5 + 2, none⟩ u2).setCell ⟨g, k * 5 + 3, none⟩ u3).setCell ⟨g, k * 5 + 4, none⟩ u4) g B0 B (k + 1) l := by
  obtain ⟨cur, hb, hc⟩ := h
  have hs := blk_set (blk_set (blk_set (blk_set (blk_set hb (k * 5) u0) (k * 5 + 1) u1) (k * 5 + 2) u2) (k * 5 + 3) u3) (k * 5 + 4) u4
  have hfar : ∀ b, b ≠ g → (((((W.setCell ⟨g, k * 5, none⟩ u0).setCell ⟨g, k * 5 + 1, none⟩ u1).setCell ⟨g, k * 5 + 2, none⟩ u2).setCell ⟨g, k * 5 + 3, none⟩ u3).setCell ⟨g, k * 5 + 4, none⟩ u4).heap[b]? = W.heap[b]? := by
    intro b hne
    rw [blk_far _ _ _ _ _ hne, blk_far _ _ _ _ _ hne, blk_far _ _ _ _ _ hne, blk_far _ _ _ _ _ hne, blk_far _ _ _ _ _ hne]
  refine ⟨_, hs, fun j y hy => ?_⟩
  by_cases hj : j = k
  · subst hj
    have hxy : x = y := Option.some.inj (hx.symm.trans hy)
    subst hxy
    obtain ⟨cs, h1, h2, _⟩ := hc j x hx
    have hlen : j * 5 + 4 < cur.size := (Array.getElem?_eq_some_iff.1 (h2 4 (cs[4]'(by omega)) (List.getElem?_eq_getElem (by omega)))).1
    have p0 : ((((((cur.setIfInBounds (j * 5) u0).setIfInBounds (j * 5 + 1) u1).setIfInBounds (j * 5 + 2) u2).setIfInBounds (j * 5 + 3) u3).setIfInBounds (j * 5 + 4) u4)[j * 5 + 0]? = some u0) := by
      rw [Array.getElem?_setIfInBounds_ne (by omega), Array.getElem?_setIfInBounds_ne (by omega), Array.getElem?_setIfInBounds_ne (by omega), Array.getElem?_setIfInBounds_ne (by omega)]
      exact Array.getElem?_setIfInBounds_self_of_lt (by omega)
    have p1 : ((((((cur.setIfInBounds (j * 5) u0).setIfInBounds (j * 5 + 1) u1).setIfInBounds (j * 5 + 2) u2).setIfInBounds (j * 5 + 3) u3).setIfInBounds (j * 5 + 4) u4)[j * 5 + 1]? = some u1) := by
      rw [Array.getElem?_setIfInBounds_ne (by omega), Array.getElem?_setIfInBounds_ne (by omega), Array.getElem?_setIfInBounds_ne (by omega)]
      exact Array.getElem?_setIfInBounds_self_of_lt (by simp; omega)
    have p2 : ((((((cur.setIfInBounds (j * 5) u0).setIfInBounds (j * 5 + 1) u1).setIfInBounds (j * 5 + 2) u2).setIfInBounds (j * 5 + 3) u3).setIfInBounds (j * 5 + 4) u4)[j * 5 + 2]? = some u2) := by
      rw [Array.getElem?_setIfInBounds_ne (by omega), Array.getElem?_setIfInBounds_ne (by omega)]
      exact Array.getElem?_setIfInBounds_self_of_lt (by simp; omega)
    have p3 : ((((((cur.setIfInBounds (j * 5) u0).setIfInBounds (j * 5 + 1) u1).setIfInBounds (j * 5 + 2) u2).setIfInBounds (j * 5 + 3) u3).setIfInBounds (j * 5 + 4) u4)[j * 5 + 3]? = some u3) := by
      rw [Array.getElem?_setIfInBounds_ne (by omega)]
      exact Array.getElem?_setIfInBounds_self_of_lt (by simp; omega)
    have p4 : ((((((cur.setIfInBounds (j * 5) u0).setIfInBounds (j * 5 + 1) u1).setIfInBounds (j * 5 + 2) u2).setIfInBounds (j * 5 + 3) u3).setIfInBounds (j * 5 + 4) u4)[j * 5 + 4]? = some u4) :=
      Array.getElem?_setIfInBounds_self_of_lt (by simp; omega)
    refine ⟨[u0, u1, u2, u3, u4], rfl, fun i u hu => ?_, ?_⟩
    · have hi : i < 5 := (List.getElem?_eq_some_iff.1 hu).1
      have hi5 : i = 0 ∨ i = 1 ∨ i = 2 ∨ i = 3 ∨ i = 4 := by omega
      rcases hi5 with rfl | rfl | rfl | rfl | rfl
      · have e : u0 = u := Option.some.inj hu
        rw [← e]
        exact p0
      · have e : u1 = u := Option.some.inj hu
        rw [← e]
        exact p1
      · have e : u2 = u := Option.some.inj hu
        rw [← e]
        exact p2
      · have e : u3 = u := Option.some.inj hu
        rw [← e]
        exact p3
      · have e : u4 = u := Option.some.inj hu
        rw [← e]
        exact p4
    · exact Foot.step (Foot.mono hf (fun b hb => ⟨hb.1, .inr hb.2, fun _ => hb.2⟩)) (fun b hb _ => hfar b hb.1)
  · obtain ⟨cs, h1, h2, h3⟩ := hc j y hy
    refine ⟨cs, h1, fun i u hu => ?_, ?_⟩
    · have hi : i < 5 := by rw [← h1]; exact (List.getElem?_eq_some_iff.1 hu).1
      rw [← h2 i u hu]
      have n0 : k * 5 ≠ j * 5 + i := by omega
      have n1 : k * 5 + 1 ≠ j * 5 + i := by omega
      have n2 : k * 5 + 2 ≠ j * 5 + i := by omega
      have n3 : k * 5 + 3 ≠ j * 5 + i := by omega
      have n4 : k * 5 + 4 ≠ j * 5 + i := by omega
      rw [Array.getElem?_setIfInBounds_ne n4, Array.getElem?_setIfInBounds_ne n3, Array.getElem?_setIfInBounds_ne n2, Array.getElem?_setIfInBounds_ne n1, Array.getElem?_setIfInBounds_ne n0]
    · exact Foot.step (Foot.mono h3 (fun b hb => ⟨hb.1, hb.2.1, fun hlt => hb.2.2 (by omega)⟩)) (fun b hb _ => hfar b hb.1)

theorem heap_ty : Kd.Heap kTy := Kd.heap_fix fun d hd => Kd.heap_iso _ (Kd.heap_pair (Kd.heap_int _) (Kd.heap_pair Kd.heap_string (Kd.heap_pair Kd.heap_string (Kd.heap_pair (Kd.heap_int _) (Kd.heap_slice _ hd)))))

/-- A clone's row, as it begins. -/
theorem TyRow.of_clone {w0 w w1 : World} {A : Option Addr} {l : List Ty} {v : Value} (h : Cloned kTy 29 w0 w w1 A l v) (hbw : Below w0.heap.size w0 w) (hb : Below w.heap.size w w1) (hn : 0 < l.length) : ∃ g c, v = .slice (some ⟨g, 0, none⟩) l.length c ∧ l.length ≤ c ∧ w.heap.size ≤ g ∧ TyRow w1 g w0.heap.size w.heap.size 0 l := by
  rcases h with ⟨_, _, rfl⟩ | ⟨css, h1, h2, h3, hown⟩
  · simp at hn
  · rcases hown.2 with ⟨_, h0⟩ | ⟨g, cap, cur, rfl, hg, hgb, hle, _, _⟩
    · omega
    · refine ⟨g, cap, rfl, hle, hg, cur, hgb, fun j x hx => ?_⟩
      obtain ⟨cs, hcs, hK⟩ := h3 j x hx
      have hcl : cs.length = 5 := h2 cs (List.mem_of_getElem? hcs)
      refine ⟨cs, hcl, fun i u hu => ?_, fun W' hW => ?_⟩
      · have hi : i < 5 := by rw [← hcl]; exact (List.getElem?_eq_some_iff.1 hu).1
        have hq : css.flatten[j * 5 + i]? = some u := by
          rw [flatten_at 5 (by decide) css h2]
          rw [show (j * 5 + i) / 5 = j by omega, show (j * 5 + i) % 5 = i by omega, hcs]
          exact hu
        have h4 := hown.cells (g := g) rfl _ _ hq
        rw [Addr.add_lit, Nat.zero_add, blk_cell hgb] at h4
        exact h4
      · exact heap_ty.K (fun b hlt => (hW b ⟨by have := hbw.size; omega, .inl hlt, fun h => by omega⟩ (by have := hb.size; have := hbw.size; omega)).trans ((hb.block b (by have := hbw.size; omega)).trans (hbw.block b hlt))) hK
end Go.Proofs.Ytbhagjhhgmmcgaa
