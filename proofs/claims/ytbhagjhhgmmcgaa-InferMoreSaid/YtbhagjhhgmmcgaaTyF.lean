/- sets.own: a method's parameters and result, laid anew. The walk of sets.own. -/
import Derived.Test.YtbhagjhhgmmcgaaTyE
namespace Go.Proofs.Ytbhagjhhgmmcgaa
open Go.RowKit PRef Go.Proofs.YtbhagjhhgmmcgaaW.PrintWords
set_option linter.unusedVariables false

/-- A type of a row is laid anew. -/
theorem ty_put {W W3 : World} {g B0 B k : Nat} {l : List Ty} (h : KRow kTy 29 W g B0 B k l) (x : Ty) (hx : l[k]? = some x) (h3 : Below W.heap.size W W3) (hg : B ≤ W.heap.size) {A6 : Option Addr} {c6 : Nat} (hc6 : x.f4.length ≤ c6) (hF : Kd.F kTy W3 (fun b => W.heap.size ≤ b) A6 x.f4.length x.f4) :
    KRow kTy 29 (((((W3.setCell ⟨g, k * 5, none⟩ (.int .i64 x.f0)).setCell ⟨g, k * 5 + 1, none⟩ (.string x.f1)).setCell ⟨g, k * 5 + 2, none⟩ (.string x.f2)).setCell ⟨g, k * 5 + 3, none⟩ (.int .i64 x.f3)).setCell ⟨g, k * 5 + 4, none⟩ (.slice A6 x.f4.length c6)) g B0 B (k + 1) l := by
  have hgl := h.lt
  have h' := h
  obtain ⟨cur, hb, hc⟩ := h'
  obtain ⟨cs, hl, hcs, hfk⟩ := hc k x hx
  obtain ⟨A5, c5, rfl, _, _⟩ := k29_open (Foot.now hfk)
  have hsz : k * 5 + 4 < cur.size := (Array.getElem?_eq_some_iff.1 (show cur[k * 5 + 4]? = some (.slice A5 x.f4.length c5) from hcs 4 _ rfl)).1
  have hb3 : W3.heap[g]? = some (.cells cur 29 (0, 0)) := (h3.block g hgl).trans hb
  have hs := blk_set (blk_set (blk_set (blk_set (blk_set hb3 (k * 5) (.int .i64 x.f0)) (k * 5 + 1) (.string x.f1)) (k * 5 + 2) (.string x.f2)) (k * 5 + 3) (.int .i64 x.f3)) (k * 5 + 4) (.slice A6 x.f4.length c6)
  refine KRow.put h x hx hs (fun b hne hlt => ?_) (fun q hq => ?_) [.int .i64 x.f0, .string x.f1, .string x.f2, .int .i64 x.f3, .slice A6 x.f4.length c6] rfl (fun i u hu => ?_) (fun W' hW => ?_)
  · rw [blk_far _ _ _ _ _ hne, blk_far _ _ _ _ _ hne, blk_far _ _ _ _ _ hne, blk_far _ _ _ _ _ hne, blk_far _ _ _ _ _ hne]
    exact h3.block b hlt
  · have hq : q < k * 5 ∨ (k + 1) * 5 ≤ q := hq
    rw [blk_cell hs, blk_cell hb, Array.getElem?_setIfInBounds_ne (by omega), Array.getElem?_setIfInBounds_ne (by omega), Array.getElem?_setIfInBounds_ne (by omega), Array.getElem?_setIfInBounds_ne (by omega), Array.getElem?_setIfInBounds_ne (by omega)]
  · have hi : i < 5 := (List.getElem?_eq_some_iff.1 hu).1
    have hi5 : i = 0 ∨ i = 1 ∨ i = 2 ∨ i = 3 ∨ i = 4 := by omega
    show (((((cur.setIfInBounds (k * 5) _).setIfInBounds (k * 5 + 1) _).setIfInBounds (k * 5 + 2) _).setIfInBounds (k * 5 + 3) _).setIfInBounds (k * 5 + 4) _)[k * 5 + i]? = some u
    rcases hi5 with rfl | rfl | rfl | rfl | rfl
    · rw [Array.getElem?_setIfInBounds_ne (by omega), Array.getElem?_setIfInBounds_ne (by omega), Array.getElem?_setIfInBounds_ne (by omega), Array.getElem?_setIfInBounds_ne (by omega), Nat.add_zero, Array.getElem?_setIfInBounds_self_of_lt (by omega)]
      exact hu
    · rw [Array.getElem?_setIfInBounds_ne (by omega), Array.getElem?_setIfInBounds_ne (by omega), Array.getElem?_setIfInBounds_ne (by omega), Array.getElem?_setIfInBounds_self_of_lt (by simp; omega)]
      exact hu
    · rw [Array.getElem?_setIfInBounds_ne (by omega), Array.getElem?_setIfInBounds_ne (by omega), Array.getElem?_setIfInBounds_self_of_lt (by simp; omega)]
      exact hu
    · rw [Array.getElem?_setIfInBounds_ne (by omega), Array.getElem?_setIfInBounds_self_of_lt (by simp; omega)]
      exact hu
    · rw [Array.getElem?_setIfInBounds_self_of_lt (by simp; omega)]
      exact hu
  · refine k29_mk W' x hc6 (hF W' (fun b hb hlt => ?_))
    have hne : b ≠ g := by omega
    refine (hW b ⟨hne, by omega⟩ (by simpa using hlt)).trans ?_
    rw [blk_far _ _ _ _ _ hne, blk_far _ _ _ _ _ hne, blk_far _ _ _ _ _ hne, blk_far _ _ _ _ _ hne, blk_far _ _ _ _ _ hne]

/-- Within the loop over a method's parameters: the methods' row is as it was, but that the method has its own row P; the first kk of P are laid anew. -/
structure MIn (w wo : World) (g k : Nat) (P : Option Addr) (cp : Nat) (x : Mth) (o : Obj) (kk : Nat) (wi : World) : Prop where
  bel : Below w.heap.size w wi
  le : w.heap.size ≤ wo.heap.size
  far : ∀ b, b ≠ g → b < wo.heap.size → wi.heap[b]? = wo.heap[b]?
  row : ∃ cur, wo.heap[g]? = some (.cells cur 50 (0, 0)) ∧ wi.heap[g]? = some (.cells (cur.setIfInBounds (k * 7 + 1) (.slice P x.f1.length cp)) 50 (0, 0))
  box : wi.heap[wo.heap.size]? = some o
  args : ORow kTy 29 wi P w.heap.size (wo.heap.size + 1) kk x.f1

section
variable {w wo wi wi' : World} {g k kk : Nat} {P : Option Addr} {cp : Nat} {x : Mth} {o : Obj}
theorem MIn.step (h : MIn w wo g k P cp x o kk wi) (hb : Below wi.heap.size wi wi') : MIn w wo g k P cp x o kk wi' := by
  obtain ⟨cur, h1, h2⟩ := h.row
  refine ⟨bel_trans h.bel hb, h.le, fun b hne hlt => (hb.block b (by have := blk_lt h.box; omega)).trans (h.far b hne hlt), ⟨cur, h1, blk_later hb h2⟩, blk_later hb h.box, fun hn => ?_⟩
  obtain ⟨gp, e, hle, hr⟩ := h.args hn
  exact ⟨gp, e, hle, hr.step (fun b hlt => hb.block b hlt)⟩
theorem MIn.of_store {w3 : World} {B0 B : Nat} {m : List Mth} (h : KRow kMth 50 wo g B0 B k m) (hw : Below w.heap.size w wo) (hg : w.heap.size ≤ g) (hb : Below wo.heap.size wo w3) (hbox : w3.heap[wo.heap.size]? = some o) (hrow : ORow kTy 29 w3 P w.heap.size (wo.heap.size + 1) 0 x.f1) :
    MIn w wo g k P cp x o 0 (w3.setCell ⟨g, k * 7 + 1, none⟩ (.slice P x.f1.length cp)) := by
  have hgl := h.lt
  obtain ⟨cur, h1, _⟩ := h
  refine ⟨(bel_trans hw hb).setCell hg _, hw.size, fun b hne hlt => (blk_far _ _ _ _ _ hne).trans (hb.block b hlt), ⟨cur, h1, blk_set ((hb.block g hgl).trans h1) _ _⟩, (blk_far _ _ _ _ _ (by omega)).trans hbox, ?_⟩
  exact ORow.stepB hrow (fun b hb _ => blk_far _ _ _ _ _ (by omega))
theorem MIn.put {W3 : World} (h : MIn w wo g k P cp x o kk wi) (hgo : g < wo.heap.size) (y : Ty) (hy : x.f1[kk]? = some y) (h3 : Below wi.heap.size wi W3) {gp : Nat} (hP : P = some ⟨gp, 0, none⟩) {A6 : Option Addr} {c6 : Nat} (hc6 : y.f4.length ≤ c6) (hF : Kd.F kTy W3 (fun b => wi.heap.size ≤ b) A6 y.f4.length y.f4) :
    MIn w wo g k P cp x o (kk + 1) (((((W3.setCell ⟨gp, kk * 5, none⟩ (.int .i64 y.f0)).setCell ⟨gp, kk * 5 + 1, none⟩ (.string y.f1)).setCell ⟨gp, kk * 5 + 2, none⟩ (.string y.f2)).setCell ⟨gp, kk * 5 + 3, none⟩ (.int .i64 y.f3)).setCell ⟨gp, kk * 5 + 4, none⟩ (.slice A6 y.f4.length c6)) := by
  have hn : 0 < x.f1.length := by have := (List.getElem?_eq_some_iff.1 hy).1; omega
  obtain ⟨gp', e, hle, hr⟩ := h.args hn
  rw [hP] at e
  injection e with e
  injection e with e
  subst e
  have hs := h.step h3
  have hlt := blk_lt h.box
  have hfar : ∀ b, b ≠ gp → (((((W3.setCell ⟨gp, kk * 5, none⟩ (.int .i64 y.f0)).setCell ⟨gp, kk * 5 + 1, none⟩ (.string y.f1)).setCell ⟨gp, kk * 5 + 2, none⟩ (.string y.f2)).setCell ⟨gp, kk * 5 + 3, none⟩ (.int .i64 y.f3)).setCell ⟨gp, kk * 5 + 4, none⟩ (.slice A6 y.f4.length c6)).heap[b]? = W3.heap[b]? := by
    intro b hne
    rw [blk_far _ _ _ _ _ hne, blk_far _ _ _ _ _ hne, blk_far _ _ _ _ _ hne, blk_far _ _ _ _ _ hne, blk_far _ _ _ _ _ hne]
  have hbw := h.bel.size
  obtain ⟨cur, h1, h2⟩ := hs.row
  have hwg := h.le
  refine ⟨?_, hwg, fun b hne hb => (hfar b (by omega)).trans (hs.far b hne hb), ⟨cur, h1, (hfar g (by omega)).trans h2⟩, (hfar _ (by omega)).trans hs.box, fun _ => ⟨gp, hP, hle, ty_put hr y hy h3 (by omega) hc6 hF⟩⟩
  iterate 5 refine Below.setCell ?_ (by simp only; omega) _
  exact hs.bel
theorem MIn.cell_at (h : MIn w wo g k P cp x o kk wi) (q : Nat) (hq : k * 7 + 1 ≠ q) : wi.cell? ⟨g, q, none⟩ = wo.cell? ⟨g, q, none⟩ := by
  obtain ⟨cur, h1, h2⟩ := h.row
  rw [blk_cell h1, blk_cell h2, Array.getElem?_setIfInBounds_ne hq]
theorem MIn.cell_P (h : MIn w wo g k P cp x o kk wi) {v : Value} (hv : wo.cell? ⟨g, k * 7 + 1, none⟩ = some v) : wi.cell? ⟨g, k * 7 + 1, none⟩ = some (.slice P x.f1.length cp) := by
  obtain ⟨cur, h1, h2⟩ := h.row
  rw [blk_cell h1] at hv
  rw [blk_cell h2, Array.getElem?_setIfInBounds_self_of_lt (Array.getElem?_eq_some_iff.1 hv).1]
theorem MIn.free (h : MIn w wo g k P cp x o kk wi) (j : Nat) : wi.frozen? ⟨g, j, none⟩ = false := by
  obtain ⟨cur, h1, h2⟩ := h.row
  exact blk_free h2 j
theorem MIn.blk (h : MIn w wo g k P cp x o kk wi) {b : Nat} {o' : Obj} (hb : wo.heap[b]? = some o') (hne : b ≠ g) : wi.heap[b]? = some o' := (h.far b hne (blk_lt hb)).trans hb
theorem MIn.F (h : MIn w wo g k P cp x o kk wi) {α : Type} {d : Kd α} {A : Option Addr} {n : Nat} {l : List α} (hg : w.heap.size ≤ g) (hF : Kd.F d wo (fun b => b < w.heap.size) A n l) : Kd.F d wi (fun b => b < w.heap.size) A n l :=
  Kd.F_step hF (fun b hb hlt => h.far b (by omega) hlt)
/-- The method is laid anew. -/
theorem MIn.mth_put {W5 : World} {B0 B : Nat} {m : List Mth} (hr : KRow kMth 50 wo g B0 B k m) (hx : m[k]? = some x) (h : MIn w wo g k P cp x o x.f1.length wi) (hpm : x.f1.length ≤ 9223372036854775807) (hB : B ≤ wo.heap.size) (hcp : x.f1.length ≤ cp) (h5 : Below wi.heap.size wi W5) {A7 : Option Addr} {c7 : Nat} (hc7 : x.f2.f4.length ≤ c7) (hF : Kd.F kTy W5 (fun b => wi.heap.size ≤ b) A7 x.f2.f4.length x.f2.f4) :
    KRow kMth 50 (((((W5.setCell ⟨g, k * 7 + 2, none⟩ (.int .i64 x.f2.f0)).setCell ⟨g, k * 7 + 2 + 1, none⟩ (.string x.f2.f1)).setCell ⟨g, k * 7 + 2 + 2, none⟩ (.string x.f2.f2)).setCell ⟨g, k * 7 + 2 + 3, none⟩ (.int .i64 x.f2.f3)).setCell ⟨g, k * 7 + 2 + 4, none⟩ (.slice A7 x.f2.f4.length c7)) g B0 B (k + 1) m := by
  have hgl := hr.lt
  have hlt := blk_lt h.box
  obtain ⟨cur, h1, h2⟩ := h.row
  have hr' := hr
  obtain ⟨cur', hb, hc⟩ := hr'
  obtain rfl : cur' = cur := by rw [hb] at h1; injection h1 with h1; injection h1
  obtain ⟨cs, hl, hcs, hfk⟩ := hc k x hx
  obtain ⟨A1, c1, A6, c6, rfl, _, _, _, _⟩ := k50_open (Foot.now hfk)
  have n0 : cur'[k * 7]? = some (.string x.f0) := hcs 0 _ rfl
  have hsz : k * 7 + 6 < cur'.size := (Array.getElem?_eq_some_iff.1 (show cur'[k * 7 + 6]? = some (.slice A6 x.f2.f4.length c6) from hcs 6 _ rfl)).1
  have hb3 : W5.heap[g]? = some (.cells (cur'.setIfInBounds (k * 7 + 1) (.slice P x.f1.length cp)) 50 (0, 0)) := blk_later h5 h2
  have hs := blk_set (blk_set (blk_set (blk_set (blk_set hb3 (k * 7 + 2) (.int .i64 x.f2.f0)) (k * 7 + 2 + 1) (.string x.f2.f1)) (k * 7 + 2 + 2) (.string x.f2.f2)) (k * 7 + 2 + 3) (.int .i64 x.f2.f3)) (k * 7 + 2 + 4) (.slice A7 x.f2.f4.length c7)
  have hfarW : ∀ b, b ≠ g → (((((W5.setCell ⟨g, k * 7 + 2, none⟩ (.int .i64 x.f2.f0)).setCell ⟨g, k * 7 + 2 + 1, none⟩ (.string x.f2.f1)).setCell ⟨g, k * 7 + 2 + 2, none⟩ (.string x.f2.f2)).setCell ⟨g, k * 7 + 2 + 3, none⟩ (.int .i64 x.f2.f3)).setCell ⟨g, k * 7 + 2 + 4, none⟩ (.slice A7 x.f2.f4.length c7)).heap[b]? = W5.heap[b]? := by
    intro b hne
    rw [blk_far _ _ _ _ _ hne, blk_far _ _ _ _ _ hne, blk_far _ _ _ _ _ hne, blk_far _ _ _ _ _ hne, blk_far _ _ _ _ _ hne]
  have hPF := Kd.F_step (Kd.F_bound (ORow.F h.args hpm)) (W1 := W5) (fun b hb hlt => h5.block b hlt)
  refine KRow.put hr x hx hs (fun b hne hlt' => ?_) (fun q hq => ?_) [.string x.f0, .slice P x.f1.length cp, .int .i64 x.f2.f0, .string x.f2.f1, .string x.f2.f2, .int .i64 x.f2.f3, .slice A7 x.f2.f4.length c7] rfl (fun i u hu => ?_) ?_
  · rw [hfarW b hne, h5.block b (by omega)]
    exact h.far b hne hlt'
  · have hq : q < k * 7 ∨ (k + 1) * 7 ≤ q := hq
    rw [blk_cell hs, blk_cell hb, Array.getElem?_setIfInBounds_ne (by omega), Array.getElem?_setIfInBounds_ne (by omega), Array.getElem?_setIfInBounds_ne (by omega), Array.getElem?_setIfInBounds_ne (by omega), Array.getElem?_setIfInBounds_ne (by omega), Array.getElem?_setIfInBounds_ne (by omega)]
  · have hi : i < 7 := (List.getElem?_eq_some_iff.1 hu).1
    have hi7 : i = 0 ∨ i = 1 ∨ i = 2 ∨ i = 3 ∨ i = 4 ∨ i = 5 ∨ i = 6 := by omega
    show ((((((cur'.setIfInBounds (k * 7 + 1) _).setIfInBounds (k * 7 + 2) _).setIfInBounds (k * 7 + 2 + 1) _).setIfInBounds (k * 7 + 2 + 2) _).setIfInBounds (k * 7 + 2 + 3) _).setIfInBounds (k * 7 + 2 + 4) _)[k * 7 + i]? = some u
    rcases hi7 with rfl | rfl | rfl | rfl | rfl | rfl | rfl
    · rw [Array.getElem?_setIfInBounds_ne (by omega), Array.getElem?_setIfInBounds_ne (by omega), Array.getElem?_setIfInBounds_ne (by omega), Array.getElem?_setIfInBounds_ne (by omega), Array.getElem?_setIfInBounds_ne (by omega), Array.getElem?_setIfInBounds_ne (by omega)]
      exact n0.trans hu
    · rw [Array.getElem?_setIfInBounds_ne (by omega), Array.getElem?_setIfInBounds_ne (by omega), Array.getElem?_setIfInBounds_ne (by omega), Array.getElem?_setIfInBounds_ne (by omega), Array.getElem?_setIfInBounds_ne (by omega), Array.getElem?_setIfInBounds_self_of_lt (by omega)]
      exact hu
    · rw [Array.getElem?_setIfInBounds_ne (by omega), Array.getElem?_setIfInBounds_ne (by omega), Array.getElem?_setIfInBounds_ne (by omega), Array.getElem?_setIfInBounds_ne (by omega), Array.getElem?_setIfInBounds_self_of_lt (by simp; omega)]
      exact hu
    · rw [Array.getElem?_setIfInBounds_ne (by omega), Array.getElem?_setIfInBounds_ne (by omega), Array.getElem?_setIfInBounds_ne (by omega), show k * 7 + 3 = k * 7 + 2 + 1 by omega, Array.getElem?_setIfInBounds_self_of_lt (by simp; omega)]
      exact hu
    · rw [Array.getElem?_setIfInBounds_ne (by omega), Array.getElem?_setIfInBounds_ne (by omega), show k * 7 + 4 = k * 7 + 2 + 2 by omega, Array.getElem?_setIfInBounds_self_of_lt (by simp; omega)]
      exact hu
    · rw [Array.getElem?_setIfInBounds_ne (by omega), show k * 7 + 5 = k * 7 + 2 + 3 by omega, Array.getElem?_setIfInBounds_self_of_lt (by simp; omega)]
      exact hu
    · rw [show k * 7 + 6 = k * 7 + 2 + 4 by omega, Array.getElem?_setIfInBounds_self_of_lt (by simp; omega)]
      exact hu
  · refine mth_mkF _ _ x hcp ?_ hc7 ?_
    · exact Kd.F_mono (Kd.F_step hPF (fun b hb _ => hfarW b (by omega))) (fun b hb => ⟨by omega, by omega⟩)
    · exact Kd.F_mono (Kd.F_step hF (fun b hb _ => hfarW b (by omega))) (fun b hb => ⟨by omega, by omega⟩)
end
end Go.Proofs.Ytbhagjhhgmmcgaa
namespace Go.Proofs.Ytbhagjhhgmmcgaa
open Go.RowKit PRef Go.Proofs.YtbhagjhhgmmcgaaW.PrintWords
set_option linter.unusedVariables false

abbrev Dcl := S35
abbrev kDcl := k35
/-- A declared type that can be copied. -/
structure DclOk (x : Dcl) : Prop where
  fn : x.f2.length * 88 ≤ 140737488355328
  mn : x.f3.length * 112 ≤ 140737488355328
  ft : ∀ f ∈ x.f2, TyOk f.f1
  mp : ∀ m ∈ x.f3, m.f1.length * 72 ≤ 140737488355328 ∧ (∀ p ∈ m.f1, TyOk p) ∧ TyOk m.f2

/-- A field's type is laid anew. -/
theorem fld_put {W W3 : World} {g B0 B k : Nat} {l : List Fld} (h : KRow kFld 83 W g B0 B k l) (x : Fld) (hx : l[k]? = some x) (h3 : Below W.heap.size W W3) (hg : B ≤ W.heap.size) {A6 : Option Addr} {c6 : Nat} (hc6 : x.f1.f4.length ≤ c6) (hF : Kd.F kTy W3 (fun b => W.heap.size ≤ b) A6 x.f1.f4.length x.f1.f4) :
    KRow kFld 83 (((((W3.setCell ⟨g, k * 6 + 1, none⟩ (.int .i64 x.f1.f0)).setCell ⟨g, k * 6 + 1 + 1, none⟩ (.string x.f1.f1)).setCell ⟨g, k * 6 + 1 + 2, none⟩ (.string x.f1.f2)).setCell ⟨g, k * 6 + 1 + 3, none⟩ (.int .i64 x.f1.f3)).setCell ⟨g, k * 6 + 1 + 4, none⟩ (.slice A6 x.f1.f4.length c6)) g B0 B (k + 1) l := by
  have hgl := h.lt
  have h' := h
  obtain ⟨cur, hb, hc⟩ := h'
  obtain ⟨cs, hl, hcs, hfk⟩ := hc k x hx
  obtain ⟨A5, c5, rfl, _, _⟩ := k83_open (Foot.now hfk)
  have n0 : cur[k * 6]? = some (.string x.f0) := hcs 0 _ rfl
  have hsz : k * 6 + 5 < cur.size := (Array.getElem?_eq_some_iff.1 (show cur[k * 6 + 5]? = some (.slice A5 x.f1.f4.length c5) from hcs 5 _ rfl)).1
  have hb3 : W3.heap[g]? = some (.cells cur 83 (0, 0)) := (h3.block g hgl).trans hb
  have hs := blk_set (blk_set (blk_set (blk_set (blk_set hb3 (k * 6 + 1) (.int .i64 x.f1.f0)) (k * 6 + 1 + 1) (.string x.f1.f1)) (k * 6 + 1 + 2) (.string x.f1.f2)) (k * 6 + 1 + 3) (.int .i64 x.f1.f3)) (k * 6 + 1 + 4) (.slice A6 x.f1.f4.length c6)
  refine KRow.put h x hx hs (fun b hne hlt => ?_) (fun q hq => ?_) [.string x.f0, .int .i64 x.f1.f0, .string x.f1.f1, .string x.f1.f2, .int .i64 x.f1.f3, .slice A6 x.f1.f4.length c6] rfl (fun i u hu => ?_) (fun W' hW => ?_)
  · rw [blk_far _ _ _ _ _ hne, blk_far _ _ _ _ _ hne, blk_far _ _ _ _ _ hne, blk_far _ _ _ _ _ hne, blk_far _ _ _ _ _ hne]
    exact h3.block b hlt
  · have hq : q < k * 6 ∨ (k + 1) * 6 ≤ q := hq
    rw [blk_cell hs, blk_cell hb, Array.getElem?_setIfInBounds_ne (by omega), Array.getElem?_setIfInBounds_ne (by omega), Array.getElem?_setIfInBounds_ne (by omega), Array.getElem?_setIfInBounds_ne (by omega), Array.getElem?_setIfInBounds_ne (by omega)]
  · have hi : i < 6 := (List.getElem?_eq_some_iff.1 hu).1
    have hi5 : i = 0 ∨ i = 1 ∨ i = 2 ∨ i = 3 ∨ i = 4 ∨ i = 5 := by omega
    show (((((cur.setIfInBounds (k * 6 + 1) _).setIfInBounds (k * 6 + 1 + 1) _).setIfInBounds (k * 6 + 1 + 2) _).setIfInBounds (k * 6 + 1 + 3) _).setIfInBounds (k * 6 + 1 + 4) _)[k * 6 + i]? = some u
    rcases hi5 with rfl | rfl | rfl | rfl | rfl | rfl
    · rw [Array.getElem?_setIfInBounds_ne (by omega), Array.getElem?_setIfInBounds_ne (by omega), Array.getElem?_setIfInBounds_ne (by omega), Array.getElem?_setIfInBounds_ne (by omega), Array.getElem?_setIfInBounds_ne (by omega)]
      exact n0.trans hu
    · rw [Array.getElem?_setIfInBounds_ne (by omega), Array.getElem?_setIfInBounds_ne (by omega), Array.getElem?_setIfInBounds_ne (by omega), Array.getElem?_setIfInBounds_ne (by omega), Array.getElem?_setIfInBounds_self_of_lt (by omega)]
      exact hu
    · rw [Array.getElem?_setIfInBounds_ne (by omega), Array.getElem?_setIfInBounds_ne (by omega), Array.getElem?_setIfInBounds_ne (by omega), Array.getElem?_setIfInBounds_self_of_lt (by simp; omega)]
      exact hu
    · rw [Array.getElem?_setIfInBounds_ne (by omega), Array.getElem?_setIfInBounds_ne (by omega), Array.getElem?_setIfInBounds_self_of_lt (by simp; omega)]
      exact hu
    · rw [Array.getElem?_setIfInBounds_ne (by omega), Array.getElem?_setIfInBounds_self_of_lt (by simp; omega)]
      exact hu
    · rw [Array.getElem?_setIfInBounds_self_of_lt (by simp; omega)]
      exact hu
  · refine k83_mk W' x hc6 (hF W' (fun b hb hlt => ?_))
    have hne : b ≠ g := by omega
    refine (hW b ⟨hne, by omega⟩ (by simpa using hlt)).trans ?_
    rw [blk_far _ _ _ _ _ hne, blk_far _ _ _ _ _ hne, blk_far _ _ _ _ _ hne, blk_far _ _ _ _ _ hne, blk_far _ _ _ _ _ hne]

def dclV (x : Dcl) (A : Option Addr) (c : Nat) (B : Option Addr) (d : Nat) : Value := .agg #[.string x.f0, .bool x.f1, .slice A x.f2.length c, .slice B x.f3.length d]

theorem sizeDcl : (Try.prog.info? 35).map (·.size) = some 4 := by kernel_rfl
set_option maxRecDepth 100000 in
set_option maxHeartbeats 2000000 in
theorem ownDcl_any (x : Dcl) (ok : DclOk x) (A : Option Addr) (c : Nat) (B : Option Addr) (d : Nat) (w : World) (h : Kd.C kFld w A x.f2.length x.f2) (hc : x.f2.length ≤ c) (h' : Kd.C kMth w B x.f3.length x.f3) (hd : x.f3.length ≤ d) :
    Calls Try.prog 53 #[dclV x A c B d] w fun e w' => ∃ A' c' B' d', e = .returned (dclV x A' c' B' d') ∧ x.f2.length ≤ c' ∧ Kd.F kFld w' (fun b => w.heap.size ≤ b) A' x.f2.length x.f2 ∧ x.f3.length ≤ d' ∧ Kd.F kMth w' (fun b => w.heap.size ≤ b) B' x.f3.length x.f3 ∧ Below w.heap.size w w' := by
  obtain ⟨fn, mn, ft, mp⟩ := ok
  obtain ⟨f0, f1, l, m⟩ := x
  simp only [dclV] at *
  have HFT := Lib.hid ft
  have HMP := Lib.hid mp
  have HFN := Lib.hid fn
  have HMN := Lib.hid mn
  have HC1 := Lib.hid (fun (W : World) (hb : Below w.heap.size w W) => cloneFld_any l A c w W h hb hc fn)
  have HC2 := Lib.hid (fun (W : World) (hb : Below w.heap.size w W) => cloneMth_any m B d w W h' hb hd mn)
  have HB0 := Lib.hid (bel_alloc (bel_alloc (Below.refl w.heap.size w) (.cells #[.string f0, .bool f1, .slice A l.length c, .slice B m.length d] 35)) (.cells #[.string ⟨#[]⟩, .bool false, .slice none 0 0, .slice none 0 0] 35))
  have HN0 := Lib.hid (blk_alloc (blk_new w (.cells #[.string f0, .bool f1, .slice A l.length c, .slice B m.length d] 35)) (.cells #[.string ⟨#[]⟩, .bool false, .slice none 0 0, .slice none 0 0] 35))
  have HR0 := Lib.hid (show ((w.alloc (.cells #[.string f0, .bool f1, .slice A l.length c, .slice B m.length d] 35)).alloc (.cells #[.string ⟨#[]⟩, .bool false, .slice none 0 0, .slice none 0 0] 35)).heap[w.heap.size + 1]? = some (.cells #[.string ⟨#[]⟩, .bool false, .slice none 0 0, .slice none 0 0] 35 (0, 0)) by simpa using blk_new (w.alloc (.cells #[.string f0, .bool f1, .slice A l.length c, .slice B m.length d] 35)) (.cells #[.string ⟨#[]⟩, .bool false, .slice none 0 0, .slice none 0 0] 35))
  clear h h' ft mp fn mn
  go_enter Try.func53, Try.ntmps53
  go_wp2_with (fail)
  refine (HC1.out _ HB0.out).mono ?_
  rintro e w1 ⟨v, rfl, hcl, hb1⟩
  have HB1 := Lib.hid (bel_trans HB0.out hb1)
  have hn1 := blk_later hb1 HN0.out
  have HN1 := Lib.hid hn1
  have HR1 := Lib.hid (blk_later hb1 HR0.out)
  have HCL := Lib.hid (And.intro hcl hb1)
  have q2 : w1.cell? ⟨w.heap.size, 2, none⟩ = some (.slice A l.length c) := (blk_cell hn1 2).trans rfl
  have f2 := blk_free hn1 2
  obtain ⟨A', c', rfl, hc', hrow⟩ := ORow.of_clone heap_fld (by decide) hcl HB0.out hb1
  have hrow2 : ORow kFld 83 (w1.setCell ⟨w.heap.size, 2, none⟩ (.slice A' l.length c')) A' w.heap.size (w.heap.size + 2) 0 l := ORow.stepB (show ORow kFld 83 w1 A' w.heap.size (w.heap.size + 2) 0 l by simpa using hrow) (fun b hb _ => blk_far _ _ _ _ _ (by omega))
  have HROW := Lib.hid hrow2
  have HC' := Lib.hid hc'
  have HN1s := Lib.hid (show (w1.setCell ⟨w.heap.size, 2, none⟩ (.slice A' l.length c')).heap[w.heap.size]? = some (.cells #[.string f0, .bool f1, .slice A' l.length c', .slice B m.length d] 35 (0, 0)) by simpa using blk_set hn1 2 (.slice A' l.length c'))
  have HR1s := Lib.hid ((blk_far w1 w.heap.size 2 (w.heap.size + 1) (.slice A' l.length c') (by omega)).trans HR1.out)
  have HB1s : Hid (Below w.heap.size w (w1.setCell ⟨w.heap.size, 2, none⟩ (.slice A' l.length c'))) := Lib.hid (HB1.out.setCell (Nat.le_refl _) _)
  clear HCL hcl hb1 hn1 hrow hrow2 HC1 HB0 HN0 HR0 HB1 HN1 HR1 hc'
  go_wp2_with (fail)
  go_loopw [16] (fun iv wr => ∃ k : Nat, k ≤ l.length ∧ iv = .int .i64 k ∧ Hid (ORow kFld 83 wr A' w.heap.size (w.heap.size + 2) k l) ∧ Hid (Below w.heap.size w wr) ∧ Hid (wr.heap[w.heap.size]? = some (.cells #[.string f0, .bool f1, .slice A' l.length c', .slice B m.length d] 35 (0, 0))) ∧ Hid (wr.heap[w.heap.size + 1]? = some (.cells #[.string ⟨#[]⟩, .bool false, .slice none 0 0, .slice none 0 0] 35 (0, 0)))) (fun iv _ => l.length - (intOf iv).toNat)
  case atStart => exact ⟨0, Nat.zero_le _, rfl, HROW, HB1s, HN1s, HR1s⟩
  case round =>
    obtain ⟨k, hk, rfl, HROW, HB, HN, HR⟩ := hrel
    by_cases hlt : k < l.length
    · obtain ⟨g, rfl, hg, hrow⟩ := HROW.out (by omega)
      obtain ⟨x, hx⟩ : ∃ x, l[k]? = some x := ⟨_, List.getElem?_eq_getElem hlt⟩
      obtain ⟨cs, hcl, hcell, hfk⟩ := hrow.get k x hx
      obtain ⟨A5, c5, rfl, l5, g5⟩ := k83_open (Foot.now hfk)
      have q0 : wr.cell? ⟨g, k * 6, none⟩ = some (.string x.f0) := hcell 0 _ rfl
      have q1 : wr.cell? ⟨g, k * 6 + 1, none⟩ = some (.int .i64 x.f1.f0) := hcell 1 _ rfl
      have q2 : wr.cell? ⟨g, k * 6 + 2, none⟩ = some (.string x.f1.f1) := hcell 2 _ rfl
      have q3 : wr.cell? ⟨g, k * 6 + 3, none⟩ = some (.string x.f1.f2) := hcell 3 _ rfl
      have q4 : wr.cell? ⟨g, k * 6 + 4, none⟩ = some (.int .i64 x.f1.f3) := hcell 4 _ rfl
      have q5 : wr.cell? ⟨g, k * 6 + 5, none⟩ = some (.slice A5 x.f1.f4.length c5) := hcell 5 _ rfl
      have hlb : l.length ≤ 140737488355328 := by have := HFN.out; omega
      have e1 : 0 ≤ (k : Int) := by omega
      have e2 : (k : Int) < l.length := by omega
      have r2 : wr.cell? ⟨w.heap.size, 2, none⟩ = some (.slice (some ⟨g, 0, none⟩) l.length c') := (blk_cell HN.out 2).trans rfl
      have HSUB := Lib.hid (fun (W : World) (hb : Below wr.heap.size wr W) => subst_nil (HFT.out x (List.mem_of_getElem? hx)) A5 c5 W (Kd.C_below g5 hb) l5)
      simp only [tyV] at HSUB
      have HLT : Hid (k + 1 ≤ l.length) := Lib.hid hlt
      have HX := Lib.hid hx
      have HRW := Lib.hid hrow
      clear hcell hfk hcl g5 hx hrow
      have r2' := cell_later (bel_alloc (Below.refl wr.heap.size wr) (.cells #[.string x.f0, .int .i64 x.f1.f0, .string x.f1.f1, .string x.f1.f2, .int .i64 x.f1.f3, .slice A5 x.f1.f4.length c5] 83)) r2
      go_wp2_with (fail)
      go_region_law (first
        | (go_simp; go_at_call 67; refine (HSUB.out _ (bel_drew (bel_alloc (Below.refl wr.heap.size wr) (.cells #[.string x.f0, .int .i64 x.f1.f0, .string x.f1.f1, .string x.f1.f2, .int .i64 x.f1.f3, .slice A5 x.f1.f4.length c5] 83)))).mono ?_; rintro e w3 ⟨A6, c6, rfl, hc6, hF, hb3⟩; have hb4 : Below wr.heap.size wr w3 := bel_trans (bel_drew (bel_alloc (Below.refl wr.heap.size wr) (.cells #[.string x.f0, .int .i64 x.f1.f0, .string x.f1.f1, .string x.f1.f2, .int .i64 x.f1.f3, .slice A5 x.f1.f4.length c5] 83))) hb3; have r2b := cell_later hb4 r2; have p1 := cell_later hb4 q1; have p2 := cell_later hb4 q2; have p3 := cell_later hb4 q3; have p4 := cell_later hb4 q4; have p5 := cell_later hb4 q5; have hrow3 := HRW.out.step (fun b hlt => hb4.block b hlt); have fr1 := hrow3.free (k * 6 + 1); have fr2 := hrow3.free (k * 6 + 2); have fr3 := hrow3.free (k * 6 + 3); have fr4 := hrow3.free (k * 6 + 4); have fr5 := hrow3.free (k * 6 + 5); have HB4 := Lib.hid hb4; have HF := Lib.hid hF; have HC6 := Lib.hid hc6; have HROW3 := Lib.hid hrow3; clear hb3 hb4 hF hc6 hrow3))
      all_goals
        go_wp2_with (fail)
        go_roundw
        case rel =>
          have hB := HB.out.size
          have hlt2 := blk_lt HR.out
          have hP := fld_put HRW.out x HX.out HB4.out (by omega) HC6.out (Kd.F_mono HF.out (fun b hb => by simp only [World.alloc, World.drew, Array.size_push] at hb; omega))
          have hB4 := bel_trans HB.out HB4.out
          refine ⟨k + 1, HLT.out, by go_num, Lib.hid (fun _ => ⟨g, rfl, hg, hP⟩), Lib.hid ?_, Lib.hid ?_, Lib.hid ?_⟩
          · iterate 5 refine Below.setCell ?_ (by simp only; omega) _
            exact hB4
          · rw [blk_far _ _ _ _ _ (by omega), blk_far _ _ _ _ _ (by omega), blk_far _ _ _ _ _ (by omega), blk_far _ _ _ _ _ (by omega), blk_far _ _ _ _ _ (by omega)]
            exact blk_later HB4.out HN.out
          · rw [blk_far _ _ _ _ _ (by omega), blk_far _ _ _ _ _ (by omega), blk_far _ _ _ _ _ (by omega), blk_far _ _ _ _ _ (by omega), blk_far _ _ _ _ _ (by omega)]
            exact blk_later HB4.out HR.out
        case measure =>
          have := HLT.out
          simp [intOf]
          omega
    · obtain rfl : k = l.length := by omega
      have hF0 := ORow.F HROW.out (by have := HFN.out; omega)
      have HFLD := Lib.hid hF0
      have q3 : wr.cell? ⟨w.heap.size, 3, none⟩ = some (.slice B m.length d) := (blk_cell HN.out 3).trans rfl
      have hlt2 := blk_lt HR.out
      clear hF0 HROW HN1s HR1s HB1s
      go_wp2_with (fail)
      refine (HC2.out _ HB.out).mono ?_
      rintro e w2 ⟨v2, rfl, hcl2, hb2⟩
      obtain ⟨B', d', rfl, hd', hrow2⟩ := ORow.of_clone heap_mth (by decide) hcl2 HB.out hb2
      have hn2 := blk_later hb2 HN.out
      have c3 : w2.cell? ⟨w.heap.size, 3, none⟩ = some (.slice B m.length d) := (blk_cell hn2 3).trans rfl
      have f3 := blk_free hn2 3
      have hrow3 : ORow kMth 50 (w2.setCell ⟨w.heap.size, 3, none⟩ (.slice B' m.length d')) B' w.heap.size wr.heap.size 0 m := ORow.stepB hrow2 (fun b hb _ => blk_far _ _ _ _ _ (by omega))
      have HROW2 := Lib.hid hrow3
      have HFLD2 : Hid (Kd.F kFld (w2.setCell ⟨w.heap.size, 3, none⟩ (.slice B' m.length d')) (fun b => w.heap.size + 2 ≤ b ∧ b < wr.heap.size) A' l.length l) := Lib.hid (Kd.F_step (Kd.F_step (Kd.F_bound HFLD.out) (fun b hb hlt => hb2.block b hlt)) (fun b hb _ => blk_far _ _ _ _ _ (by omega)))
      have HN2 := Lib.hid (show (w2.setCell ⟨w.heap.size, 3, none⟩ (.slice B' m.length d')).heap[w.heap.size]? = some (.cells #[.string f0, .bool f1, .slice A' l.length c', .slice B' m.length d'] 35 (0, 0)) by simpa using blk_set hn2 3 (.slice B' m.length d'))
      have HR2 := Lib.hid ((blk_far w2 w.heap.size 3 (w.heap.size + 1) (.slice B' m.length d') (by omega)).trans (blk_later hb2 HR.out))
      have HB2 : Hid (Below w.heap.size w (w2.setCell ⟨w.heap.size, 3, none⟩ (.slice B' m.length d'))) := Lib.hid ((bel_trans HB.out hb2).setCell (Nat.le_refl _) _)
      have HD' := Lib.hid hd'
      clear hcl2 hb2 hrow2 hrow3 hn2 HC2 HB HN HR HFLD hd' q3
      generalize wr.heap.size = B2 at HROW2 HFLD2 hlt2
      go_wp2_with (fail)
      go_loopw [37] (fun iv wr => ∃ k : Nat, k ≤ m.length ∧ iv = .int .i64 k ∧ Hid (ORow kMth 50 wr B' w.heap.size B2 k m) ∧ Hid (Below w.heap.size w wr) ∧ Hid (Kd.F kFld wr (fun b => w.heap.size + 2 ≤ b ∧ b < B2) A' l.length l) ∧ Hid (wr.heap[w.heap.size]? = some (.cells #[.string f0, .bool f1, .slice A' l.length c', .slice B' m.length d'] 35 (0, 0))) ∧ Hid (wr.heap[w.heap.size + 1]? = some (.cells #[.string ⟨#[]⟩, .bool false, .slice none 0 0, .slice none 0 0] 35 (0, 0)))) (fun iv _ => m.length - (intOf iv).toNat)
      case atStart => exact ⟨0, Nat.zero_le _, rfl, HROW2, HB2, HFLD2, HN2, HR2⟩
      case round =>
        clear HROW2 HB2 HFLD2 HN2 HR2
        obtain ⟨k, hk, rfl, HROW, HB, HFL, HN, HR⟩ := hrel
        by_cases hlt : k < m.length
        · obtain ⟨wo, hwo⟩ : ∃ wo : World, wo = wr := ⟨_, rfl⟩
          subst hwo
          obtain ⟨g, rfl, hg, hrow⟩ := HROW.out (by omega)
          obtain ⟨x, hx⟩ : ∃ x, m[k]? = some x := ⟨_, List.getElem?_eq_getElem hlt⟩
          obtain ⟨cs, hcl, hcell, hfk⟩ := hrow.get k x hx
          obtain ⟨A1, c1, A6, c6, rfl, l1, g1, l6, g6⟩ := mth_openF hfk
          have q0 : wo.cell? ⟨g, k * 7, none⟩ = some (.string x.f0) := hcell 0 _ rfl
          have q1 : wo.cell? ⟨g, k * 7 + 1, none⟩ = some (.slice A1 x.f1.length c1) := hcell 1 _ rfl
          have q2 : wo.cell? ⟨g, k * 7 + 2, none⟩ = some (.int .i64 x.f2.f0) := hcell 2 _ rfl
          have q3 : wo.cell? ⟨g, k * 7 + 3, none⟩ = some (.string x.f2.f1) := hcell 3 _ rfl
          have q4 : wo.cell? ⟨g, k * 7 + 4, none⟩ = some (.string x.f2.f2) := hcell 4 _ rfl
          have q5 : wo.cell? ⟨g, k * 7 + 5, none⟩ = some (.int .i64 x.f2.f3) := hcell 5 _ rfl
          have q6 : wo.cell? ⟨g, k * 7 + 6, none⟩ = some (.slice A6 x.f2.f4.length c6) := hcell 6 _ rfl
          have hlb : m.length ≤ 140737488355328 := by have := HMN.out; omega
          have e1 : 0 ≤ (k : Int) := by omega
          have e2 : (k : Int) < m.length := by omega
          obtain ⟨hpn, hpt, hrt⟩ := HMP.out x (List.mem_of_getElem? hx)
          have HPT := Lib.hid hpt
          have HPN := Lib.hid hpn
          have HRT := Lib.hid hrt
          have HHG := Lib.hid hg
          have r3 : wo.cell? ⟨w.heap.size, 3, none⟩ = some (.slice (some ⟨g, 0, none⟩) m.length d') := (blk_cell HN.out 3).trans rfl
          have HG1 := Lib.hid (Kd.F_mono g1 (ok' := fun b => b < w.heap.size) (fun b hb => hb.2.2 (Nat.le_refl k)))
          have HG6 := Lib.hid (Kd.F_mono g6 (ok' := fun b => b < w.heap.size) (fun b hb => hb.2.2 (Nat.le_refl k)))
          have HCLP := Lib.hid (fun (W : World) (hb : Below wo.heap.size wo W) => cloneTy_R (R := fun y c => Kd.FK kTy wo (fun b => b < w.heap.size) y c) (fun y c h => ty_one (Foot.now h)) x.f1 A1 c1 wo W (Kd.F_rows HG1.out) hb l1 hpn)
          have HL6 := Lib.hid l6
          have HL1 := Lib.hid l1
          have HLT : Hid (k + 1 ≤ m.length) := Lib.hid hlt
          have HX := Lib.hid hx
          have HRW := Lib.hid hrow
          have r3' := cell_later (bel_alloc (Below.refl wo.heap.size wo) (.cells #[.string x.f0, .slice A1 x.f1.length c1, .int .i64 x.f2.f0, .string x.f2.f1, .string x.f2.f2, .int .i64 x.f2.f3, .slice A6 x.f2.f4.length c6] 50)) r3
          clear hcell hfk hcl g1 g6 hx hrow hpn hpt hrt l6 l1 hg
          go_wp2_with (fail)
          go_region_law (first
            | (go_simp; go_at_call 75; refine (HCLP.out _ (bel_drew (bel_alloc (Below.refl wo.heap.size wo) (.cells #[.string x.f0, .slice A1 x.f1.length c1, .int .i64 x.f2.f0, .string x.f2.f1, .string x.f2.f2, .int .i64 x.f2.f3, .slice A6 x.f2.f4.length c6] 50)))).mono ?_; rintro e w3 ⟨v3, rfl, hcl3, hb3⟩; have hb4 : Below wo.heap.size wo w3 := bel_trans (bel_drew (bel_alloc (Below.refl wo.heap.size wo) (.cells #[.string x.f0, .slice A1 x.f1.length c1, .int .i64 x.f2.f0, .string x.f2.f1, .string x.f2.f2, .int .i64 x.f2.f3, .slice A6 x.f2.f4.length c6] 50))) hb3; have r3b := cell_later hb4 r3; have p1 := cell_later hb4 q1; have fr1 := (HRW.out.step (fun b hlt => hb4.block b hlt)).free (k * 7 + 1); have hcl4 := ORow.of_cloneF (d := kTy) (by decide) hcl3 (HB.out.size) (bel_drew (bel_alloc (Below.refl wo.heap.size wo) (.cells #[.string x.f0, .slice A1 x.f1.length c1, .int .i64 x.f2.f0, .string x.f2.f1, .string x.f2.f2, .int .i64 x.f2.f3, .slice A6 x.f2.f4.length c6] 50))) hb3; have hM := blk_later hb3 (show ((wo.alloc (.cells #[.string x.f0, .slice A1 x.f1.length c1, .int .i64 x.f2.f0, .string x.f2.f1, .string x.f2.f2, .int .i64 x.f2.f3, .slice A6 x.f2.f4.length c6] 50)).drew).heap[wo.heap.size]? = _ from blk_new wo (.cells #[.string x.f0, .slice A1 x.f1.length c1, .int .i64 x.f2.f0, .string x.f2.f1, .string x.f2.f2, .int .i64 x.f2.f3, .slice A6 x.f2.f4.length c6] 50)); have HM := Lib.hid hM; have m1 : w3.cell? ⟨wo.heap.size, 1, none⟩ = some (.slice A1 x.f1.length c1) := (blk_cell hM 1).trans rfl; have HB4 := Lib.hid hb4; obtain ⟨P, cp, rfl, hcp, hprow⟩ := hcl4; have HCP := Lib.hid hcp; have HPROW := Lib.hid (show ORow kTy 29 w3 P w.heap.size (wo.heap.size + 1) 0 x.f1 by simpa using hprow); have hgM : g < wo.heap.size := HRW.out.lt; have hneM : wo.heap.size ≠ g := Nat.ne_of_gt hgM; have hneM2 := hneM.symm; clear hcl3 hb3 hb4 hcp hprow hM))
          all_goals
            have HGW := Lib.hid (show w.heap.size ≤ g from by have := HHG.out; omega)
            have HIN0 := Lib.hid (MIn.of_store (cp := cp) HRW.out HB.out HGW.out HB4.out HM.out HPROW.out)
            have HGLT := Lib.hid hgM
            have HQ1 := Lib.hid q1
            have HQS := Lib.hid (And.intro q2 (And.intro q3 (And.intro q4 (And.intro q5 q6))))
            go_wp2_with (fail)
            clear r3b p1 fr1 m1 q0 q1 q2 q3 q4 q5 q6 r3' HB4 HM HPROW hneM hneM2 hgM
            go_loopw [53] (fun iv wr => ∃ kk : Nat, kk ≤ x.f1.length ∧ iv = .int .i64 kk ∧ Hid (MIn w wo g k P cp x (.cells #[.string x.f0, .slice A1 x.f1.length c1, .int .i64 x.f2.f0, .string x.f2.f1, .string x.f2.f2, .int .i64 x.f2.f3, .slice A6 x.f2.f4.length c6] 50 (0, 0)) kk wr)) (fun iv _ => x.f1.length - (intOf iv).toNat)
            case atStart => exact ⟨0, Nat.zero_le _, rfl, HIN0⟩
            case round =>
              clear HIN0
              obtain ⟨kk, hkk, rfl, HIN⟩ := hrel
              have hr3 := HIN.out.blk HN.out (Nat.ne_of_lt (by have := HHG.out; omega))
              by_cases hlk : kk < x.f1.length
              · obtain ⟨y, hy⟩ : ∃ y, x.f1[kk]? = some y := ⟨_, List.getElem?_eq_getElem hlk⟩
                obtain ⟨ad, A4, c4, hA1, y0, y1, y2, y3, y4, l4, h4⟩ := at_T29 (Kd.F_now (HIN.out.F HGW.out HG1.out)) (kk : Int) (by omega) (by omega)
                subst hA1
                rw [show rd_T29 x.f1 (kk : Int) = y from by unfold rd_T29; rw [Int.toNat_natCast, List.getD_eq_getElem?_getD, hy]; rfl] at y0 y1 y2 y3 y4 l4 h4
                rw [Int.toNat_natCast] at y0 y1 y2 y3 y4
                obtain ⟨gp, hP, hgp, hprow⟩ := HIN.out.args (by omega)
                subst hP
                obtain ⟨cs, hcl, hcell, hfk⟩ := hprow.get kk y hy
                obtain ⟨A5, c5, rfl, _, _⟩ := k29_open (Foot.now hfk)
                have p0 : wr.cell? ⟨gp, kk * 5, none⟩ = some (.int .i64 y.f0) := hcell 0 _ rfl
                have p1 : wr.cell? ⟨gp, kk * 5 + 1, none⟩ = some (.string y.f1) := hcell 1 _ rfl
                have p2 : wr.cell? ⟨gp, kk * 5 + 2, none⟩ = some (.string y.f2) := hcell 2 _ rfl
                have p3 : wr.cell? ⟨gp, kk * 5 + 3, none⟩ = some (.int .i64 y.f3) := hcell 3 _ rfl
                have p4 : wr.cell? ⟨gp, kk * 5 + 4, none⟩ = some (.slice A5 y.f4.length c5) := hcell 4 _ rfl
                have hPR := Lib.hid hprow
                have HSUB := Lib.hid (fun (W : World) (hb : Below wr.heap.size wr W) => subst_nil (HPT.out y (List.mem_of_getElem? hy)) A4 c4 W (Kd.C_below h4 hb) l4)
                simp only [tyV] at HSUB
                have s3 := (blk_cell hr3 3).trans rfl
                have sP := HIN.out.cell_P HQ1.out
                have s3' := cell_later (bel_alloc (Below.refl wr.heap.size wr) (.cells #[.int .i64 y.f0, .string y.f1, .string y.f2, .int .i64 y.f3, .slice A4 y.f4.length c4] 29)) s3
                have sP' := cell_later (bel_alloc (Below.refl wr.heap.size wr) (.cells #[.int .i64 y.f0, .string y.f1, .string y.f2, .int .i64 y.f3, .slice A4 y.f4.length c4] 29)) sP
                have i0 : 0 ≤ (kk : Int) := by omega
                have i1 : (kk : Int) < x.f1.length := by omega
                have hxl : x.f1.length ≤ 140737488355328 := by have := HPN.out; omega
                have HYY := Lib.hid hy
                have HLK := Lib.hid hlk
                clear hcell hfk hcl h4 hy hr3 hprow l4
                go_wp2_with (fail)
                go_region_law (first
                  | (go_simp; go_at_call 67; refine (HSUB.out _ (bel_drew (bel_alloc (Below.refl wr.heap.size wr) (.cells #[.int .i64 y.f0, .string y.f1, .string y.f2, .int .i64 y.f3, .slice A4 y.f4.length c4] 29)))).mono ?_; rintro e w5 ⟨A9, c9, rfl, hc9, hF, hb5⟩; have hb6 : Below wr.heap.size wr w5 := bel_trans (bel_drew (bel_alloc (Below.refl wr.heap.size wr) (.cells #[.int .i64 y.f0, .string y.f1, .string y.f2, .int .i64 y.f3, .slice A4 y.f4.length c4] 29))) hb5; have s3b := cell_later hb6 s3; have sPb := cell_later hb6 sP; have p0b := cell_later hb6 p0; have p1b := cell_later hb6 p1; have p2b := cell_later hb6 p2; have p3b := cell_later hb6 p3; have p4b := cell_later hb6 p4; have hrow5 := hPR.out.step (fun b hlt => hb6.block b hlt); have fr0 := hrow5.free (kk * 5); have fr1 := hrow5.free (kk * 5 + 1); have fr2 := hrow5.free (kk * 5 + 2); have fr3 := hrow5.free (kk * 5 + 3); have fr4 := hrow5.free (kk * 5 + 4); have HB6 := Lib.hid hb6; have HF9 := Lib.hid hF; have HC9 := Lib.hid hc9; clear hb5 hb6 hF hc9 hrow5))
                all_goals
                  go_wp2_with (fail)
                  go_roundw
                  case rel => exact ⟨kk + 1, HLK.out, by go_num, Lib.hid (HIN.out.put HGLT.out y HYY.out HB6.out rfl HC9.out (Kd.F_mono HF9.out (fun b hb => by simp only [World.alloc, World.drew, Array.size_push] at hb; omega)))⟩
                  case measure =>
                    have := HLK.out
                    simp [intOf]
                    omega
              · obtain rfl : kk = x.f1.length := by omega
                obtain ⟨q2, q3, q4, q5, q6⟩ := HQS.out
                have hbx := HIN.out.box
                have m2 := (blk_cell hbx 2).trans rfl
                have m3 := (blk_cell hbx 3).trans rfl
                have m4 := (blk_cell hbx 4).trans rfl
                have m5 := (blk_cell hbx 5).trans rfl
                have m6 := (blk_cell hbx 6).trans rfl
                have s3 := (blk_cell hr3 3).trans rfl
                have p2 := (HIN.out.cell_at (k * 7 + 2) (by omega)).trans q2
                have p3 := (HIN.out.cell_at (k * 7 + 3) (by omega)).trans q3
                have p4 := (HIN.out.cell_at (k * 7 + 4) (by omega)).trans q4
                have p5 := (HIN.out.cell_at (k * 7 + 5) (by omega)).trans q5
                have p6 := (HIN.out.cell_at (k * 7 + 6) (by omega)).trans q6
                have HSUB := Lib.hid (fun (W : World) (hb : Below wr.heap.size wr W) => subst_nil HRT.out A6 c6 W (Kd.C_below (Kd.F_now (HIN.out.F HGW.out HG6.out)) hb) HL6.out)
                simp only [tyV] at HSUB
                clear q2 q3 q4 q5 q6 hbx hr3
                go_wp2_with (fail)
                go_region_law (first
                  | (go_simp; go_at_call 67; refine (HSUB.out _ (bel_drew (Below.refl wr.heap.size wr))).mono ?_; rintro e w5 ⟨A9, c9, rfl, hc9, hF, hb5⟩; have hb6 : Below wr.heap.size wr w5 := bel_trans (bel_drew (Below.refl wr.heap.size wr)) hb5; have s3b := cell_later hb6 s3; have p2b := cell_later hb6 p2; have p3b := cell_later hb6 p3; have p4b := cell_later hb6 p4; have p5b := cell_later hb6 p5; have p6b := cell_later hb6 p6; have hin5 := HIN.out.step hb6; have fr2 := hin5.free (k * 7 + 2); have fr3 := hin5.free (k * 7 + 2 + 1); have fr4 := hin5.free (k * 7 + 2 + 2); have fr5 := hin5.free (k * 7 + 2 + 3); have fr6 := hin5.free (k * 7 + 2 + 4); have HB6 := Lib.hid hb6; have HF9 := Lib.hid hF; have HC9 := Lib.hid hc9; clear hb5 hb6 hF hc9 hin5))
                all_goals
                  go_wp2_with (fail)
                  go_roundw
                  case rel =>
                    have hlr := blk_lt HR.out
                    have hgo := HGLT.out
                    have hhg := HHG.out
                    have hP := HIN.out.mth_put HRW.out HX.out (by have := HPN.out; omega) (by omega) HCP.out HB6.out HC9.out (Kd.F_mono HF9.out (fun b hb => by simp only [World.drew] at hb; omega))
                    have hin5 := HIN.out.step HB6.out
                    have hfar : ∀ b, b ≠ g → (((((w5.setCell ⟨g, k * 7 + 2, none⟩ (.int .i64 x.f2.f0)).setCell ⟨g, k * 7 + 2 + 1, none⟩ (.string x.f2.f1)).setCell ⟨g, k * 7 + 2 + 2, none⟩ (.string x.f2.f2)).setCell ⟨g, k * 7 + 2 + 3, none⟩ (.int .i64 x.f2.f3)).setCell ⟨g, k * 7 + 2 + 4, none⟩ (.slice A9 x.f2.f4.length c9)).heap[b]? = w5.heap[b]? := by
                      intro b hne
                      rw [blk_far _ _ _ _ _ hne, blk_far _ _ _ _ _ hne, blk_far _ _ _ _ _ hne, blk_far _ _ _ _ _ hne, blk_far _ _ _ _ _ hne]
                    refine ⟨k + 1, HLT.out, by go_num, Lib.hid (fun _ => ⟨g, rfl, hhg, hP⟩), Lib.hid ?_, Lib.hid ?_, Lib.hid ?_, Lib.hid ?_⟩
                    · have hgw := HGW.out
                      iterate 5 refine Below.setCell ?_ hgw _
                      exact hin5.bel
                    · exact Kd.F_step HFL.out (fun b hb hlt => (hfar b (by omega)).trans (hin5.far b (by omega) hlt))
                    · rw [hfar _ (by omega)]
                      exact hin5.blk HN.out (by omega)
                    · rw [hfar _ (by omega)]
                      exact hin5.blk HR.out (by omega)
                  case measure =>
                    have := HLT.out
                    simp [intOf]
                    omega
        · obtain rfl : k = m.length := by omega
          have hF2 := ORow.F HROW.out (by have := HMN.out; omega)
          have q0 : wr.cell? ⟨w.heap.size, 0, none⟩ = some (.string f0) := (blk_cell HN.out 0).trans rfl
          have q1 : wr.cell? ⟨w.heap.size, 1, none⟩ = some (.bool f1) := (blk_cell HN.out 1).trans rfl
          have q2 : wr.cell? ⟨w.heap.size, 2, none⟩ = some (.slice A' l.length c') := (blk_cell HN.out 2).trans rfl
          have q3 : wr.cell? ⟨w.heap.size, 3, none⟩ = some (.slice B' m.length d') := (blk_cell HN.out 3).trans rfl
          have r0 : wr.cell? ⟨w.heap.size + 1, 0, none⟩ = some (.string ⟨#[]⟩) := (blk_cell HR.out 0).trans rfl
          have r1 : wr.cell? ⟨w.heap.size + 1, 1, none⟩ = some (.bool false) := (blk_cell HR.out 1).trans rfl
          have r2 : wr.cell? ⟨w.heap.size + 1, 2, none⟩ = some (.slice none 0 0) := (blk_cell HR.out 2).trans rfl
          have r3 : wr.cell? ⟨w.heap.size + 1, 3, none⟩ = some (.slice none 0 0) := (blk_cell HR.out 3).trans rfl
          have g0 := blk_free HR.out 0
          have g1 := blk_free HR.out 1
          have g2 := blk_free HR.out 2
          have g3 := blk_free HR.out 3
          have HF2 := Lib.hid hF2
          have hwr : Hid (w.heap.size + 2 ≤ B2) := Lib.hid hlt2
          clear hF2 HROW
          go_wp2_with (fail)
          have h2 := blk_set (blk_set (blk_set (blk_set HR.out 0 (.string f0)) 1 (.bool f1)) 2 (.slice A' l.length c')) 3 (.slice B' m.length d')
          refine bodyPost_ret (results_cell_row rfl _ _ (w.heap.size + 1) 35 #[.string f0, .bool f1, .slice A' l.length c', .slice B' m.length d'] (0, 0) _ rfl (h2.trans rfl) Try.underlying35 rfl (sizeDcl.trans rfl)) rfl ?_
          have hfar : ∀ b, b ≠ w.heap.size + 1 → ((((wr.setCell ⟨w.heap.size + 1, 0, none⟩ (.string f0)).setCell ⟨w.heap.size + 1, 1, none⟩ (.bool f1)).setCell ⟨w.heap.size + 1, 2, none⟩ (.slice A' l.length c')).setCell ⟨w.heap.size + 1, 3, none⟩ (.slice B' m.length d')).heap[b]? = wr.heap[b]? := by
            intro b hne
            rw [blk_far _ _ _ _ _ hne, blk_far _ _ _ _ _ hne, blk_far _ _ _ _ _ hne, blk_far _ _ _ _ _ hne]
          refine ⟨A', c', B', d', rfl, HC'.out, ?_, HD'.out, ?_, ?_⟩
          · exact Kd.F_mono (Kd.F_step HFL.out (fun b hb _ => hfar b (by omega))) (fun b hb => by omega)
          · exact Kd.F_mono (Kd.F_step HF2.out (fun b hb _ => hfar b (by have := hwr.out; omega))) (fun b hb => by have := hwr.out; omega)
          · iterate 4 refine Below.setCell ?_ (by simp only; omega) _
            exact HB.out
end Go.Proofs.Ytbhagjhhgmmcgaa
