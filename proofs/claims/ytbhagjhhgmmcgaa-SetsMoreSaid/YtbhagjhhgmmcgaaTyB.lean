/- term.Subst without arguments: the same type, in new memory. -/
import Derived.Test.YtbhagjhhgmmcgaaTyA
namespace Go.Proofs.Ytbhagjhhgmmcgaa
open Go.RowKit PRef Go.Proofs.YtbhagjhhgmmcgaaW.PrintWords
set_option linter.unusedVariables false

/-- A type none of whose rows is too long to be copied. -/
inductive TyOk : Ty → Prop where
  | mk (t : Ty) (h : t.f4.length * 72 ≤ 140737488355328) (hs : ∀ x ∈ t.f4, TyOk x) : TyOk t

/-- What lies in block g: each element's cells, and what they lead to lies elsewhere; the first k ones' in blocks from B on. -/
def TyRow (W : World) (g B0 B k : Nat) (l : List Ty) : Prop :=
  ∃ cur : Array Value, W.heap[g]? = some (.cells cur 29 (0, 0)) ∧ ∀ (j : Nat) x, l[j]? = some x → ∃ cs : List Value, cs.length = 5 ∧ (∀ (i : Nat) u, cs[i]? = some u → cur[j * 5 + i]? = some u) ∧ Kd.FK kTy W (fun b => b ≠ g ∧ (b < B0 ∨ B ≤ b) ∧ (j < k → B ≤ b)) x cs

theorem TyRow.F {W : World} {g B0 B : Nat} {l : List Ty} (h : TyRow W g B0 B l.length l) (hg : B ≤ g) (hm : l.length ≤ 9223372036854775807) : Kd.F kTy W (fun b => B ≤ b) (some ⟨g, 0, none⟩) l.length l := by
  intro W' hW
  obtain ⟨cur, hb, hc⟩ := h
  have hb' : W'.heap[g]? = some (.cells cur 29 (0, 0)) := (hW g hg (blk_lt hb)).trans hb
  refine ⟨rfl, hm, fun _ => ⟨_, rfl, fun j p hp => ?_⟩⟩
  obtain ⟨cs, h1, h2, h3⟩ := hc j p hp
  have hj : j < l.length := (List.getElem?_eq_some_iff.1 hp).1
  refine ⟨cs, h1, h3 W' (fun k hk hlt => hW k (hk.2.2 hj) hlt), fun i u hu => ?_⟩
  rw [Addr.add_lit, Nat.zero_add, blk_cell hb']
  exact h2 i u hu

theorem TyRow.step {W W1 : World} {g B0 B k : Nat} {l : List Ty} (h : TyRow W g B0 B k l) (hk : ∀ b, b < W.heap.size → W1.heap[b]? = W.heap[b]?) : TyRow W1 g B0 B k l := by
  obtain ⟨cur, hb, hc⟩ := h
  refine ⟨cur, (hk g (blk_lt hb)).trans hb, fun j x hx => ?_⟩
  obtain ⟨cs, h1, h2, h3⟩ := hc j x hx
  exact ⟨cs, h1, h2, Foot.step h3 (fun b _ hlt => hk b hlt)⟩

set_option maxHeartbeats 1000000 in
/-- An element is laid anew. -/
theorem TyRow.put {W : World} {g B0 B k : Nat} {l : List Ty} (h : TyRow W g B0 B k l) (hk : k < l.length) (x : Ty) (hx : l[k]? = some x) (u0 u1 u2 u3 u4 : Value) (hf : Kd.FK kTy W (fun b => b ≠ g ∧ B ≤ b) x [u0, u1, u2, u3, u4]) :
    TyRow (((((W.setCell ⟨g, k * 5, none⟩ u0).setCell ⟨g, k * 5 + 1, none⟩ u1).setCell ⟨g, k * 5 + 2, none⟩ u2).setCell ⟨g, k * 5 + 3, none⟩ u3).setCell ⟨g, k * 5 + 4, none⟩ u4) g B0 B (k + 1) l := by
  obtain ⟨cur, hb, hc⟩ := h
  have hs := blk_set (blk_set (blk_set (blk_set (blk_set hb (k * 5) u0) (k * 5 + 1) u1) (k * 5 + 2) u2) (k * 5 + 3) u3) (k * 5 + 4) u4
  have hfar : ∀ b, b ≠ g → (((((W.setCell ⟨g, k * 5, none⟩ u0).setCell ⟨g, k * 5 + 1, none⟩ u1).setCell ⟨g, k * 5 + 2, none⟩ u2).setCell ⟨g, k * 5 + 3, none⟩ u3).setCell ⟨g, k * 5 + 4, none⟩ u4).heap[b]? = W.heap[b]? := by
    intro b hne
    rw [blk_far _ _ _ _ _ hne, blk_far _ _ _ _ _ hne, blk_far _ _ _ _ _ hne, blk_far _ _ _ _ _ hne, blk_far _ _ _ _ _ hne]
  refine ⟨_, hs, fun j y hy => ?_⟩
  by_cases hj : j = k
  · subst hj
    have hxy : x = y := Option.some.inj (hx.symm.trans hy)
    subst hxy
    obtain ⟨cs, h1, h2, _⟩ := hc j x hx
    have hlen : j * 5 + 4 < cur.size := (Array.getElem?_eq_some_iff.1 (h2 4 (cs[4]'(by omega)) (List.getElem?_eq_getElem (by omega)))).1
    have p0 : ((((((cur.setIfInBounds (j * 5) u0).setIfInBounds (j * 5 + 1) u1).setIfInBounds (j * 5 + 2) u2).setIfInBounds (j * 5 + 3) u3).setIfInBounds (j * 5 + 4) u4)[j * 5 + 0]? = some u0) := by
      rw [Array.getElem?_setIfInBounds_ne (by omega), Array.getElem?_setIfInBounds_ne (by omega), Array.getElem?_setIfInBounds_ne (by omega), Array.getElem?_setIfInBounds_ne (by omega)]
      exact Array.getElem?_setIfInBounds_self_of_lt (by omega)
    have p1 : ((((((cur.setIfInBounds (j * 5) u0).setIfInBounds (j * 5 + 1) u1).setIfInBounds (j * 5 + 2) u2).setIfInBounds (j * 5 + 3) u3).setIfInBounds (j * 5 + 4) u4)[j * 5 + 1]? = some u1) := by
      rw [Array.getElem?_setIfInBounds_ne (by omega), Array.getElem?_setIfInBounds_ne (by omega), Array.getElem?_setIfInBounds_ne (by omega)]
      exact Array.getElem?_setIfInBounds_self_of_lt (by simp; omega)
    have p2 : ((((((cur.setIfInBounds (j * 5) u0).setIfInBounds (j * 5 + 1) u1).setIfInBounds (j * 5 + 2) u2).setIfInBounds (j * 5 + 3) u3).setIfInBounds (j * 5 + 4) u4)[j * 5 + 2]? = some u2) := by
      rw [Array.getElem?_setIfInBounds_ne (by omega), Array.getElem?_setIfInBounds_ne (by omega)]
      exact Array.getElem?_setIfInBounds_self_of_lt (by simp; omega)
    have p3 : ((((((cur.setIfInBounds (j * 5) u0).setIfInBounds (j * 5 + 1) u1).setIfInBounds (j * 5 + 2) u2).setIfInBounds (j * 5 + 3) u3).setIfInBounds (j * 5 + 4) u4)[j * 5 + 3]? = some u3) := by
      rw [Array.getElem?_setIfInBounds_ne (by omega)]
      exact Array.getElem?_setIfInBounds_self_of_lt (by simp; omega)
    have p4 : ((((((cur.setIfInBounds (j * 5) u0).setIfInBounds (j * 5 + 1) u1).setIfInBounds (j * 5 + 2) u2).setIfInBounds (j * 5 + 3) u3).setIfInBounds (j * 5 + 4) u4)[j * 5 + 4]? = some u4) :=
      Array.getElem?_setIfInBounds_self_of_lt (by simp; omega)
    refine ⟨[u0, u1, u2, u3, u4], rfl, fun i u hu => ?_, ?_⟩
    · have hi : i < 5 := (List.getElem?_eq_some_iff.1 hu).1
      have hi5 : i = 0 ∨ i = 1 ∨ i = 2 ∨ i = 3 ∨ i = 4 := by omega
      rcases hi5 with rfl | rfl | rfl | rfl | rfl
      · have e : u0 = u := Option.some.inj hu
        rw [← e]
        exact p0
      · have e : u1 = u := Option.some.inj hu
        rw [← e]
        exact p1
      · have e : u2 = u := Option.some.inj hu
        rw [← e]
        exact p2
      · have e : u3 = u := Option.some.inj hu
        rw [← e]
        exact p3
      · have e : u4 = u := Option.some.inj hu
        rw [← e]
        exact p4
    · exact Foot.step (Foot.mono hf (fun b hb => ⟨hb.1, .inr hb.2, fun _ => hb.2⟩)) (fun b hb _ => hfar b hb.1)
  · obtain ⟨cs, h1, h2, h3⟩ := hc j y hy
    refine ⟨cs, h1, fun i u hu => ?_, ?_⟩
    · have hi : i < 5 := by rw [← h1]; exact (List.getElem?_eq_some_iff.1 hu).1
      rw [← h2 i u hu]
      have n0 : k * 5 ≠ j * 5 + i := by omega
      have n1 : k * 5 + 1 ≠ j * 5 + i := by omega
      have n2 : k * 5 + 2 ≠ j * 5 + i := by omega
      have n3 : k * 5 + 3 ≠ j * 5 + i := by omega
      have n4 : k * 5 + 4 ≠ j * 5 + i := by omega
      rw [Array.getElem?_setIfInBounds_ne n4, Array.getElem?_setIfInBounds_ne n3, Array.getElem?_setIfInBounds_ne n2, Array.getElem?_setIfInBounds_ne n1, Array.getElem?_setIfInBounds_ne n0]
    · exact Foot.step (Foot.mono h3 (fun b hb => ⟨hb.1, hb.2.1, fun hlt => hb.2.2 (by omega)⟩)) (fun b hb _ => hfar b hb.1)

theorem heap_ty : Kd.Heap kTy := Kd.heap_fix fun d hd => Kd.heap_iso _ (Kd.heap_pair (Kd.heap_int _) (Kd.heap_pair Kd.heap_string (Kd.heap_pair Kd.heap_string (Kd.heap_pair (Kd.heap_int _) (Kd.heap_slice _ hd)))))

/-- A clone's row, as it begins. -/
theorem TyRow.of_clone {w0 w w1 : World} {A : Option Addr} {l : List Ty} {v : Value} (h : Cloned kTy 29 w0 w w1 A l v) (hbw : Below w0.heap.size w0 w) (hb : Below w.heap.size w w1) (hn : 0 < l.length) : ∃ g c, v = .slice (some ⟨g, 0, none⟩) l.length c ∧ l.length ≤ c ∧ w.heap.size ≤ g ∧ TyRow w1 g w0.heap.size w.heap.size 0 l := by
  rcases h with ⟨_, _, rfl⟩ | ⟨css, h1, h2, h3, hown⟩
  · simp at hn
  · rcases hown.2 with ⟨_, h0⟩ | ⟨g, cap, cur, rfl, hg, hgb, hle, _, _⟩
    · omega
    · refine ⟨g, cap, rfl, hle, hg, cur, hgb, fun j x hx => ?_⟩
      obtain ⟨cs, hcs, hK⟩ := h3 j x hx
      have hcl : cs.length = 5 := h2 cs (List.mem_of_getElem? hcs)
      refine ⟨cs, hcl, fun i u hu => ?_, fun W' hW => ?_⟩
      · have hi : i < 5 := by rw [← hcl]; exact (List.getElem?_eq_some_iff.1 hu).1
        have hq : css.flatten[j * 5 + i]? = some u := by
          rw [flatten_at 5 (by decide) css h2]
          rw [show (j * 5 + i) / 5 = j by omega, show (j * 5 + i) % 5 = i by omega, hcs]
          exact hu
        have h4 := hown.cells (g := g) rfl _ _ hq
        rw [Addr.add_lit, Nat.zero_add, blk_cell hgb] at h4
        exact h4
      · exact heap_ty.K (fun b hlt => (hW b ⟨by have := hbw.size; omega, .inl hlt, fun h => by omega⟩ (by have := hb.size; have := hbw.size; omega)).trans ((hb.block b (by have := hbw.size; omega)).trans (hbw.block b hlt))) hK
end Go.Proofs.Ytbhagjhhgmmcgaa
