/- sets.own: a method's parameters and result, laid anew. -/
import Derived.Test.YtbhagjhhgmmcgaaTyE
namespace Go.Proofs.Ytbhagjhhgmmcgaa
open Go.RowKit PRef Go.Proofs.YtbhagjhhgmmcgaaW.PrintWords
set_option linter.unusedVariables false

/-- A type of a row is laid anew. -/
theorem ty_put {W W3 : World} {g B0 B k : Nat} {l : List Ty} (h : KRow kTy 29 W g B0 B k l) (x : Ty) (hx : l[k]? = some x) (h3 : Below W.heap.size W W3) (hg : B ≤ W.heap.size) {A6 : Option Addr} {c6 : Nat} (hc6 : x.f4.length ≤ c6) (hF : Kd.F kTy W3 (fun b => W.heap.size ≤ b) A6 x.f4.length x.f4) :
    KRow kTy 29 (((((W3.setCell ⟨g, k * 5, none⟩ (.int .i64 x.f0)).setCell ⟨g, k * 5 + 1, none⟩ (.string x.f1)).setCell ⟨g, k * 5 + 2, none⟩ (.string x.f2)).setCell ⟨g, k * 5 + 3, none⟩ (.int .i64 x.f3)).setCell ⟨g, k * 5 + 4, none⟩ (.slice A6 x.f4.length c6)) g B0 B (k + 1) l := by
  have hgl := h.lt
  have h' := h
  obtain ⟨cur, hb, hc⟩ := h'
  obtain ⟨cs, hl, hcs, hfk⟩ := hc k x hx
  obtain ⟨A5, c5, rfl, _, _⟩ := k29_open (Foot.now hfk)
  have hsz : k * 5 + 4 < cur.size := (Array.getElem?_eq_some_iff.1 (show cur[k * 5 + 4]? = some (.slice A5 x.f4.length c5) from hcs 4 _ rfl)).1
  have hb3 : W3.heap[g]? = some (.cells cur 29 (0, 0)) := (h3.block g hgl).trans hb
  have hs := blk_set (blk_set (blk_set (blk_set (blk_set hb3 (k * 5) (.int .i64 x.f0)) (k * 5 + 1) (.string x.f1)) (k * 5 + 2) (.string x.f2)) (k * 5 + 3) (.int .i64 x.f3)) (k * 5 + 4) (.slice A6 x.f4.length c6)
  refine KRow.put h x hx hs (fun b hne hlt => ?_) (fun q hq => ?_) [.int .i64 x.f0, .string x.f1, .string x.f2, .int .i64 x.f3, .slice A6 x.f4.length c6] rfl (fun i u hu => ?_) (fun W' hW => ?_)
  · rw [blk_far _ _ _ _ _ hne, blk_far _ _ _ _ _ hne, blk_far _ _ _ _ _ hne, blk_far _ _ _ _ _ hne, blk_far _ _ _ _ _ hne]
    exact h3.block b hlt
  · have hq : q < k * 5 ∨ (k + 1) * 5 ≤ q := hq
    rw [blk_cell hs, blk_cell hb, Array.getElem?_setIfInBounds_ne (by omega), Array.getElem?_setIfInBounds_ne (by omega), Array.getElem?_setIfInBounds_ne (by omega), Array.getElem?_setIfInBounds_ne (by omega), Array.getElem?_setIfInBounds_ne (by omega)]
  · have hi : i < 5 := (List.getElem?_eq_some_iff.1 hu).1
    have hi5 : i = 0 ∨ i = 1 ∨ i = 2 ∨ i = 3 ∨ i = 4 := by omega
    show (((((cur.setIfInBounds (k * 5) _).setIfInBounds (k * 5 + 1) _).setIfInBounds (k * 5 + 2) _).setIfInBounds (k * 5 + 3) _).setIfInBounds (k * 5 + 4) _)[k * 5 + i]? = some u
    rcases hi5 with rfl | rfl | rfl | rfl | rfl
    · rw [Array.getElem?_setIfInBounds_ne (by omega), Array.getElem?_setIfInBounds_ne (by omega), Array.getElem?_setIfInBounds_ne (by omega), Array.getElem?_setIfInBounds_ne (by omega), Nat.add_zero, Array.getElem?_setIfInBounds_self_of_lt (by omega)]
      exact hu
    · rw [Array.getElem?_setIfInBounds_ne (by omega), Array.getElem?_setIfInBounds_ne (by omega), Array.getElem?_setIfInBounds_ne (by omega), Array.getElem?_setIfInBounds_self_of_lt (by simp; omega)]
      exact hu
    · rw [Array.getElem?_setIfInBounds_ne (by omega), Array.getElem?_setIfInBounds_ne (by omega), Array.getElem?_setIfInBounds_self_of_lt (by simp; omega)]
      exact hu
    · rw [Array.getElem?_setIfInBounds_ne (by omega), Array.getElem?_setIfInBounds_self_of_lt (by simp; omega)]
      exact hu
    · rw [Array.getElem?_setIfInBounds_self_of_lt (by simp; omega)]
      exact hu
  · refine k29_mk W' x hc6 (hF W' (fun b hb hlt => ?_))
    have hne : b ≠ g := by omega
    refine (hW b ⟨hne, by omega⟩ (by simpa using hlt)).trans ?_
    rw [blk_far _ _ _ _ _ hne, blk_far _ _ _ _ _ hne, blk_far _ _ _ _ _ hne, blk_far _ _ _ _ _ hne, blk_far _ _ _ _ _ hne]

/-- Within the loop over a method's parameters: the methods' row is as it was, but that the method has its own row P; the first kk of P are laid anew. -/
structure MIn (w wo : World) (g k : Nat) (P : Option Addr) (cp : Nat) (x : Mth) (o : Obj) (kk : Nat) (wi : World) : Prop where
  bel : Below w.heap.size w wi
  le : w.heap.size ≤ wo.heap.size
  far : ∀ b, b ≠ g → b < wo.heap.size → wi.heap[b]? = wo.heap[b]?
  row : ∃ cur, wo.heap[g]? = some (.cells cur 50 (0, 0)) ∧ wi.heap[g]? = some (.cells (cur.setIfInBounds (k * 7 + 1) (.slice P x.f1.length cp)) 50 (0, 0))
  box : wi.heap[wo.heap.size]? = some o
  args : ORow kTy 29 wi P w.heap.size (wo.heap.size + 1) kk x.f1

section
variable {w wo wi wi' : World} {g k kk : Nat} {P : Option Addr} {cp : Nat} {x : Mth} {o : Obj}
theorem MIn.step (h : MIn w wo g k P cp x o kk wi) (hb : Below wi.heap.size wi wi') : MIn w wo g k P cp x o kk wi' := by
  obtain ⟨cur, h1, h2⟩ := h.row
  refine ⟨bel_trans h.bel hb, h.le, fun b hne hlt => (hb.block b (by have := blk_lt h.box; omega)).trans (h.far b hne hlt), ⟨cur, h1, blk_later hb h2⟩, blk_later hb h.box, fun hn => ?_⟩
  obtain ⟨gp, e, hle, hr⟩ := h.args hn
  exact ⟨gp, e, hle, hr.step (fun b hlt => hb.block b hlt)⟩
theorem MIn.of_store {w3 : World} {B0 B : Nat} {m : List Mth} (h : KRow kMth 50 wo g B0 B k m) (hw : Below w.heap.size w wo) (hg : w.heap.size ≤ g) (hb : Below wo.heap.size wo w3) (hbox : w3.heap[wo.heap.size]? = some o) (hrow : ORow kTy 29 w3 P w.heap.size (wo.heap.size + 1) 0 x.f1) :
    MIn w wo g k P cp x o 0 (w3.setCell ⟨g, k * 7 + 1, none⟩ (.slice P x.f1.length cp)) := by
  have hgl := h.lt
  obtain ⟨cur, h1, _⟩ := h
  refine ⟨(bel_trans hw hb).setCell hg _, hw.size, fun b hne hlt => (blk_far _ _ _ _ _ hne).trans (hb.block b hlt), ⟨cur, h1, blk_set ((hb.block g hgl).trans h1) _ _⟩, (blk_far _ _ _ _ _ (by omega)).trans hbox, ?_⟩
  exact ORow.stepB hrow (fun b hb _ => blk_far _ _ _ _ _ (by omega))
theorem MIn.put {W3 : World} (h : MIn w wo g k P cp x o kk wi) (hgo : g < wo.heap.size) (y : Ty) (hy : x.f1[kk]? = some y) (h3 : Below wi.heap.size wi W3) {gp : Nat} (hP : P = some ⟨gp, 0, none⟩) {A6 : Option Addr} {c6 : Nat} (hc6 : y.f4.length ≤ c6) (hF : Kd.F kTy W3 (fun b => wi.heap.size ≤ b) A6 y.f4.length y.f4) :
    MIn w wo g k P cp x o (kk + 1) (((((W3.setCell ⟨gp, kk * 5, none⟩ (.int .i64 y.f0)).setCell ⟨gp, kk * 5 + 1, none⟩ (.string y.f1)).setCell ⟨gp, kk * 5 + 2, none⟩ (.string y.f2)).setCell ⟨gp, kk * 5 + 3, none⟩ (.int .i64 y.f3)).setCell ⟨gp, kk * 5 + 4, none⟩ (.slice A6 y.f4.length c6)) := by
  have hn : 0 < x.f1.length := by have := (List.getElem?_eq_some_iff.1 hy).1; omega
  obtain ⟨gp', e, hle, hr⟩ := h.args hn
  rw [hP] at e
  injection e with e
  injection e with e
  subst e
  have hs := h.step h3
  have hlt := blk_lt h.box
  have hfar : ∀ b, b ≠ gp → (((((W3.setCell ⟨gp, kk * 5, none⟩ (.int .i64 y.f0)).setCell ⟨gp, kk * 5 + 1, none⟩ (.string y.f1)).setCell ⟨gp, kk * 5 + 2, none⟩ (.string y.f2)).setCell ⟨gp, kk * 5 + 3, none⟩ (.int .i64 y.f3)).setCell ⟨gp, kk * 5 + 4, none⟩ (.slice A6 y.f4.length c6)).heap[b]? = W3.heap[b]? := by
    intro b hne
    rw [blk_far _ _ _ _ _ hne, blk_far _ _ _ _ _ hne, blk_far _ _ _ _ _ hne, blk_far _ _ _ _ _ hne, blk_far _ _ _ _ _ hne]
  have hbw := h.bel.size
  obtain ⟨cur, h1, h2⟩ := hs.row
  have hwg := h.le
  refine ⟨?_, hwg, fun b hne hb => (hfar b (by omega)).trans (hs.far b hne hb), ⟨cur, h1, (hfar g (by omega)).trans h2⟩, (hfar _ (by omega)).trans hs.box, fun _ => ⟨gp, hP, hle, ty_put hr y hy h3 (by omega) hc6 hF⟩⟩
  iterate 5 refine Below.setCell ?_ (by simp only; omega) _
  exact hs.bel
theorem MIn.cell_at (h : MIn w wo g k P cp x o kk wi) (q : Nat) (hq : k * 7 + 1 ≠ q) : wi.cell? ⟨g, q, none⟩ = wo.cell? ⟨g, q, none⟩ := by
  obtain ⟨cur, h1, h2⟩ := h.row
  rw [blk_cell h1, blk_cell h2, Array.getElem?_setIfInBounds_ne hq]
theorem MIn.cell_P (h : MIn w wo g k P cp x o kk wi) {v : Value} (hv : wo.cell? ⟨g, k * 7 + 1, none⟩ = some v) : wi.cell? ⟨g, k * 7 + 1, none⟩ = some (.slice P x.f1.length cp) := by
  obtain ⟨cur, h1, h2⟩ := h.row
  rw [blk_cell h1] at hv
  rw [blk_cell h2, Array.getElem?_setIfInBounds_self_of_lt (Array.getElem?_eq_some_iff.1 hv).1]
theorem MIn.free (h : MIn w wo g k P cp x o kk wi) (j : Nat) : wi.frozen? ⟨g, j, none⟩ = false := by
  obtain ⟨cur, h1, h2⟩ := h.row
  exact blk_free h2 j
theorem MIn.blk (h : MIn w wo g k P cp x o kk wi) {b : Nat} {o' : Obj} (hb : wo.heap[b]? = some o') (hne : b ≠ g) : wi.heap[b]? = some o' := (h.far b hne (blk_lt hb)).trans hb
theorem MIn.F (h : MIn w wo g k P cp x o kk wi) {α : Type} {d : Kd α} {A : Option Addr} {n : Nat} {l : List α} (hg : w.heap.size ≤ g) (hF : Kd.F d wo (fun b => b < w.heap.size) A n l) : Kd.F d wi (fun b => b < w.heap.size) A n l :=
  Kd.F_step hF (fun b hb hlt => h.far b (by omega) hlt)
/-- The method is laid anew. -/
theorem MIn.mth_put {W5 : World} {B0 B : Nat} {m : List Mth} (hr : KRow kMth 50 wo g B0 B k m) (hx : m[k]? = some x) (h : MIn w wo g k P cp x o x.f1.length wi) (hpm : x.f1.length ≤ 9223372036854775807) (hB : B ≤ wo.heap.size) (hcp : x.f1.length ≤ cp) (h5 : Below wi.heap.size wi W5) {A7 : Option Addr} {c7 : Nat} (hc7 : x.f2.f4.length ≤ c7) (hF : Kd.F kTy W5 (fun b => wi.heap.size ≤ b) A7 x.f2.f4.length x.f2.f4) :
    KRow kMth 50 (((((W5.setCell ⟨g, k * 7 + 2, none⟩ (.int .i64 x.f2.f0)).setCell ⟨g, k * 7 + 2 + 1, none⟩ (.string x.f2.f1)).setCell ⟨g, k * 7 + 2 + 2, none⟩ (.string x.f2.f2)).setCell ⟨g, k * 7 + 2 + 3, none⟩ (.int .i64 x.f2.f3)).setCell ⟨g, k * 7 + 2 + 4, none⟩ (.slice A7 x.f2.f4.length c7)) g B0 B (k + 1) m := by
  have hgl := hr.lt
  have hlt := blk_lt h.box
  obtain ⟨cur, h1, h2⟩ := h.row
  have hr' := hr
  obtain ⟨cur', hb, hc⟩ := hr'
  obtain rfl : cur' = cur := by rw [hb] at h1; injection h1 with h1; injection h1
  obtain ⟨cs, hl, hcs, hfk⟩ := hc k x hx
  obtain ⟨A1, c1, A6, c6, rfl, _, _, _, _⟩ := k50_open (Foot.now hfk)
  have n0 : cur'[k * 7]? = some (.string x.f0) := hcs 0 _ rfl
  have hsz : k * 7 + 6 < cur'.size := (Array.getElem?_eq_some_iff.1 (show cur'[k * 7 + 6]? = some (.slice A6 x.f2.f4.length c6) from hcs 6 _ rfl)).1
  have hb3 : W5.heap[g]? = some (.cells (cur'.setIfInBounds (k * 7 + 1) (.slice P x.f1.length cp)) 50 (0, 0)) := blk_later h5 h2
  have hs := blk_set (blk_set (blk_set (blk_set (blk_set hb3 (k * 7 + 2) (.int .i64 x.f2.f0)) (k * 7 + 2 + 1) (.string x.f2.f1)) (k * 7 + 2 + 2) (.string x.f2.f2)) (k * 7 + 2 + 3) (.int .i64 x.f2.f3)) (k * 7 + 2 + 4) (.slice A7 x.f2.f4.length c7)
  have hfarW : ∀ b, b ≠ g → (((((W5.setCell ⟨g, k * 7 + 2, none⟩ (.int .i64 x.f2.f0)).setCell ⟨g, k * 7 + 2 + 1, none⟩ (.string x.f2.f1)).setCell ⟨g, k * 7 + 2 + 2, none⟩ (.string x.f2.f2)).setCell ⟨g, k * 7 + 2 + 3, none⟩ (.int .i64 x.f2.f3)).setCell ⟨g, k * 7 + 2 + 4, none⟩ (.slice A7 x.f2.f4.length c7)).heap[b]? = W5.heap[b]? := by
    intro b hne
    rw [blk_far _ _ _ _ _ hne, blk_far _ _ _ _ _ hne, blk_far _ _ _ _ _ hne, blk_far _ _ _ _ _ hne, blk_far _ _ _ _ _ hne]
  have hPF := Kd.F_step (Kd.F_bound (ORow.F h.args hpm)) (W1 := W5) (fun b hb hlt => h5.block b hlt)
  refine KRow.put hr x hx hs (fun b hne hlt' => ?_) (fun q hq => ?_) [.string x.f0, .slice P x.f1.length cp, .int .i64 x.f2.f0, .string x.f2.f1, .string x.f2.f2, .int .i64 x.f2.f3, .slice A7 x.f2.f4.length c7] rfl (fun i u hu => ?_) ?_
  · rw [hfarW b hne, h5.block b (by omega)]
    exact h.far b hne hlt'
  · have hq : q < k * 7 ∨ (k + 1) * 7 ≤ q := hq
    rw [blk_cell hs, blk_cell hb, Array.getElem?_setIfInBounds_ne (by omega), Array.getElem?_setIfInBounds_ne (by omega), Array.getElem?_setIfInBounds_ne (by omega), Array.getElem?_setIfInBounds_ne (by omega), Array.getElem?_setIfInBounds_ne (by omega), Array.getElem?_setIfInBounds_ne (by omega)]
  · have hi : i < 7 := (List.getElem?_eq_some_iff.1 hu).1
    have hi7 : i = 0 ∨ i = 1 ∨ i = 2 ∨ i = 3 ∨ i = 4 ∨ i = 5 ∨ i = 6 := by omega
    show ((((((cur'.setIfInBounds (k * 7 + 1) _).setIfInBounds (k * 7 + 2) _).setIfInBounds (k * 7 + 2 + 1) _).setIfInBounds (k * 7 + 2 + 2) _).setIfInBounds (k * 7 + 2 + 3) _).setIfInBounds (k * 7 + 2 + 4) _)[k * 7 + i]? = some u
    rcases hi7 with rfl | rfl | rfl | rfl | rfl | rfl | rfl
    · rw [Array.getElem?_setIfInBounds_ne (by omega), Array.getElem?_setIfInBounds_ne (by omega), Array.getElem?_setIfInBounds_ne (by omega), Array.getElem?_setIfInBounds_ne (by omega), Array.getElem?_setIfInBounds_ne (by omega), Array.getElem?_setIfInBounds_ne (by omega)]
      exact n0.trans hu
    · rw [Array.getElem?_setIfInBounds_ne (by omega), Array.getElem?_setIfInBounds_ne (by omega), Array.getElem?_setIfInBounds_ne (by omega), Array.getElem?_setIfInBounds_ne (by omega), Array.getElem?_setIfInBounds_ne (by omega), Array.getElem?_setIfInBounds_self_of_lt (by omega)]
      exact hu
    · rw [Array.getElem?_setIfInBounds_ne (by omega), Array.getElem?_setIfInBounds_ne (by omega), Array.getElem?_setIfInBounds_ne (by omega), Array.getElem?_setIfInBounds_ne (by omega), Array.getElem?_setIfInBounds_self_of_lt (by simp; omega)]
      exact hu
    · rw [Array.getElem?_setIfInBounds_ne (by omega), Array.getElem?_setIfInBounds_ne (by omega), Array.getElem?_setIfInBounds_ne (by omega), show k * 7 + 3 = k * 7 + 2 + 1 by omega, Array.getElem?_setIfInBounds_self_of_lt (by simp; omega)]
      exact hu
    · rw [Array.getElem?_setIfInBounds_ne (by omega), Array.getElem?_setIfInBounds_ne (by omega), show k * 7 + 4 = k * 7 + 2 + 2 by omega, Array.getElem?_setIfInBounds_self_of_lt (by simp; omega)]
      exact hu
    · rw [Array.getElem?_setIfInBounds_ne (by omega), show k * 7 + 5 = k * 7 + 2 + 3 by omega, Array.getElem?_setIfInBounds_self_of_lt (by simp; omega)]
      exact hu
    · rw [show k * 7 + 6 = k * 7 + 2 + 4 by omega, Array.getElem?_setIfInBounds_self_of_lt (by simp; omega)]
      exact hu
  · refine mth_mkF _ _ x hcp ?_ hc7 ?_
    · exact Kd.F_mono (Kd.F_step hPF (fun b hb _ => hfarW b (by omega))) (fun b hb => ⟨by omega, by omega⟩)
    · exact Kd.F_mono (Kd.F_step hF (fun b hb _ => hfarW b (by omega))) (fun b hb => ⟨by omega, by omega⟩)
end
end Go.Proofs.Ytbhagjhhgmmcgaa
