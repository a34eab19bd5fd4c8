/- The document's tell and Unify. The document's Subst, with any types to put in: what is not put in is laid anew, what is put in is shared. -/
import Derived.Test.YtbhagjhhgmmcgaaTyUE
namespace Go.Proofs.Ytbhagjhhgmmcgaa
open Go.RowKit PRef Go.Proofs.YtbhagjhhgmmcgaaW.PrintWords
set_option linter.unusedVariables false
set_option linter.unusedSimpArgs false

/-- A row at block g, of types whose own rows lie in w0. -/
def DRow (w0 W : World) (g : Nat) (l : List Ty) : Prop :=
  ∃ cur : Array Value, W.heap[g]? = some (.cells cur 29 (0, 0)) ∧ ∀ (j : Nat) x, l[j]? = some x → ∃ cs : List Value, cs.length = 5 ∧ (∀ (i : Nat) u, cs[i]? = some u → cur[j * 5 + i]? = some u) ∧ kTy.K w0 x cs
theorem DRow.same {w0 W W' : World} {g : Nat} {l : List Ty} (h : DRow w0 W g l) (he : W'.heap[g]? = W.heap[g]?) : DRow w0 W' g l := by
  obtain ⟨cur, hb, hc⟩ := h
  exact ⟨cur, he.trans hb, hc⟩
theorem DRow.lt {w0 W : World} {g : Nat} {l : List Ty} (h : DRow w0 W g l) : g < W.heap.size := by
  obtain ⟨cur, hb, hc⟩ := h
  exact blk_lt hb
theorem DRow.free {w0 W : World} {g : Nat} {l : List Ty} (h : DRow w0 W g l) (j : Nat) : W.frozen? ⟨g, j, none⟩ = false := by
  obtain ⟨cur, hb, _⟩ := h
  exact blk_free hb j
theorem DRow.get {w0 W : World} {g : Nat} {l : List Ty} (h : DRow w0 W g l) (j : Nat) (x : Ty) (hx : l[j]? = some x) : ∃ A c, W.cell? ⟨g, j * 5, none⟩ = some (.int .i64 x.f0) ∧ W.cell? ⟨g, j * 5 + 1, none⟩ = some (.string x.f1) ∧ W.cell? ⟨g, j * 5 + 2, none⟩ = some (.string x.f2) ∧ W.cell? ⟨g, j * 5 + 3, none⟩ = some (.int .i64 x.f3) ∧ W.cell? ⟨g, j * 5 + 4, none⟩ = some (.slice A x.f4.length c) ∧ x.f4.length ≤ c ∧ Kd.C kTy w0 A x.f4.length x.f4 := by
  obtain ⟨cur, hb, hc⟩ := h
  obtain ⟨cs, h1, h2, h3⟩ := hc j x hx
  obtain ⟨A4, c4, rfl, l4, g4⟩ := k29_open h3
  exact ⟨A4, c4, (blk_cell hb _).trans (h2 0 _ rfl), (blk_cell hb _).trans (h2 1 _ rfl), (blk_cell hb _).trans (h2 2 _ rfl), (blk_cell hb _).trans (h2 3 _ rfl), (blk_cell hb _).trans (h2 4 _ rfl), l4, g4⟩
theorem DRow.C {w0 W : World} {g : Nat} {l : List Ty} (h : DRow w0 W g l) (hb : Below w0.heap.size w0 W) (hm : l.length ≤ 9223372036854775807) : Kd.C kTy W (some ⟨g, 0, none⟩) l.length l := by
  obtain ⟨cur, hg, hc⟩ := h
  refine ⟨rfl, hm, fun _ => ⟨_, rfl, fun j p hp => ?_⟩⟩
  obtain ⟨cs, h1, h2, h3⟩ := hc j p hp
  refine ⟨cs, h1, heap_ty.K (fun b hlt => hb.block b hlt) h3, fun i u hu => ?_⟩
  rw [Addr.add_lit, Nat.zero_add, blk_cell hg]
  exact h2 i u hu
theorem DRow.F {w0 W : World} {g : Nat} {l : List Ty} (h : DRow w0 W g l) (hb : Below w0.heap.size w0 W) (hm : l.length ≤ 9223372036854775807) : Kd.F kTy W (fun b => b < w0.heap.size ∨ b = g) (some ⟨g, 0, none⟩) l.length l := by
  intro W' hW
  have h2 : DRow w0 W' g l := h.same (hW g (.inr rfl) h.lt)
  obtain ⟨cur, hg, hc⟩ := h2
  refine ⟨rfl, hm, fun _ => ⟨_, rfl, fun j p hp => ?_⟩⟩
  obtain ⟨cs, h1, h2, h3⟩ := hc j p hp
  refine ⟨cs, h1, heap_ty.K (fun b hlt => (hW b (.inl hlt) (Nat.lt_of_lt_of_le hlt hb.size)).trans (hb.block b hlt)) h3, fun i u hu => ?_⟩
  rw [Addr.add_lit, Nat.zero_add, blk_cell hg]
  exact h2 i u hu
theorem DRow.made {w0 W : World} {g k : Nat} (h : W.heap[g]? = some (.cells (madeCells #[.int .i64 0, .string ⟨#[]⟩, .string ⟨#[]⟩, .int .i64 0, .slice none 0 0] (k * 5)) 29 (0, 0))) : DRow w0 W g (List.replicate k zTy) := by
  obtain ⟨cur, hb, hc⟩ := TyRow.of_made (B0 := 0) (B := 0) h
  refine ⟨cur, hb, fun j x hx => ?_⟩
  obtain ⟨cs, h1, h2, h3⟩ := hc j x hx
  rw [List.getElem?_replicate] at hx
  split at hx
  · injection hx with hx
    subst hx
    refine ⟨_, rfl, fun i u hu => ?_, Foot.now (zTy_FK w0 (fun _ => True))⟩
    obtain ⟨A4, c4, rfl, _, _⟩ := k29_open (Foot.now h3)
    rename_i hj
    have hi : i < 5 := (List.getElem?_eq_some_iff.1 hu).1
    have hlt : j * 5 + i < k * 5 := by omega
    have hcur : cur = madeCells #[.int .i64 0, .string ⟨#[]⟩, .string ⟨#[]⟩, .int .i64 0, .slice none 0 0] (k * 5) := by
      have := h.symm.trans hb
      injection this with this
      injection this with this
      exact this.symm
    rw [hcur]
    unfold madeCells
    rw [Array.getElem?_map, Array.getElem?_range, if_pos hlt]
    simp only [Option.map_some, List.size_toArray, List.length_cons, List.length_nil]
    rw [show (j * 5 + i) % (0 + 1 + 1 + 1 + 1 + 1) = i by omega]
    have hi5 : i = 0 ∨ i = 1 ∨ i = 2 ∨ i = 3 ∨ i = 4 := by omega
    rcases hi5 with rfl | rfl | rfl | rfl | rfl <;> exact hu
  · cases hx

set_option maxHeartbeats 1000000 in
theorem DRow.put {w0 W : World} {g k : Nat} {l : List Ty} (h : DRow w0 W g l) (hk : k < l.length) (y : Ty) (A : Option Addr) (c : Nat) (hc : y.f4.length ≤ c) (hA : Kd.C kTy w0 A y.f4.length y.f4) :
    DRow w0 (((((W.setCell ⟨g, k * 5, none⟩ (.int .i64 y.f0)).setCell ⟨g, k * 5 + 1, none⟩ (.string y.f1)).setCell ⟨g, k * 5 + 2, none⟩ (.string y.f2)).setCell ⟨g, k * 5 + 3, none⟩ (.int .i64 y.f3)).setCell ⟨g, k * 5 + 4, none⟩ (.slice A y.f4.length c)) g (l.set k y) := by
  obtain ⟨cur, hb, hcc⟩ := h
  have hF : ∀ x cs, kTy.K w0 x cs → Kd.FK kTy w0 (fun b => b < w0.heap.size) x cs := fun x cs hK W' hW => heap_ty.K (fun b hlt => hW b hlt hlt) hK
  generalize hu4 : Value.slice A y.f4.length c = u4
  have hs := blk_set (blk_set (blk_set (blk_set (blk_set hb (k * 5) (.int .i64 y.f0)) (k * 5 + 1) (.string y.f1)) (k * 5 + 2) (.string y.f2)) (k * 5 + 3) (.int .i64 y.f3)) (k * 5 + 4) u4
  refine ⟨_, hs, fun j z hy => ?_⟩
  by_cases hj : j = k
  · subst hj
    have hyz : y = z := by rw [List.getElem?_set_self hk] at hy; exact Option.some.inj hy
    subst hyz
    obtain ⟨cs, h1, h2, _⟩ := hcc j l[j] (List.getElem?_eq_getElem hk)
    have hlen : j * 5 + 4 < cur.size := (Array.getElem?_eq_some_iff.1 (h2 4 (cs[4]'(by omega)) (List.getElem?_eq_getElem (by omega)))).1
    refine ⟨[.int .i64 y.f0, .string y.f1, .string y.f2, .int .i64 y.f3, u4], rfl, fun i u hu => ?_, by rw [← hu4]; exact k29_mk w0 y hc hA⟩
    have hi : i < 5 := (List.getElem?_eq_some_iff.1 hu).1
    have hi5 : i = 0 ∨ i = 1 ∨ i = 2 ∨ i = 3 ∨ i = 4 := by omega
    rcases hi5 with rfl | rfl | rfl | rfl | rfl
    · rw [Array.getElem?_setIfInBounds_ne (by omega), Array.getElem?_setIfInBounds_ne (by omega), Array.getElem?_setIfInBounds_ne (by omega), Array.getElem?_setIfInBounds_ne (by omega)]
      exact (Array.getElem?_setIfInBounds_self_of_lt (by omega)).trans hu
    · rw [Array.getElem?_setIfInBounds_ne (by omega), Array.getElem?_setIfInBounds_ne (by omega), Array.getElem?_setIfInBounds_ne (by omega)]
      exact (Array.getElem?_setIfInBounds_self_of_lt (by simp; omega)).trans hu
    · rw [Array.getElem?_setIfInBounds_ne (by omega), Array.getElem?_setIfInBounds_ne (by omega)]
      exact (Array.getElem?_setIfInBounds_self_of_lt (by simp; omega)).trans hu
    · rw [Array.getElem?_setIfInBounds_ne (by omega)]
      exact (Array.getElem?_setIfInBounds_self_of_lt (by simp; omega)).trans hu
    · exact (Array.getElem?_setIfInBounds_self_of_lt (by simp; omega)).trans hu
  · rw [List.getElem?_set_ne (fun e => hj e.symm)] at hy
    obtain ⟨cs, h1, h2, h3⟩ := hcc j z hy
    refine ⟨cs, h1, fun i u hu => ?_, h3⟩
    have hi : i < 5 := by rw [← h1]; exact (List.getElem?_eq_some_iff.1 hu).1
    rw [← h2 i u hu]
    have n0 : k * 5 ≠ j * 5 + i := by omega
    have n1 : k * 5 + 1 ≠ j * 5 + i := by omega
    have n2 : k * 5 + 2 ≠ j * 5 + i := by omega
    have n3 : k * 5 + 3 ≠ j * 5 + i := by omega
    have n4 : k * 5 + 4 ≠ j * 5 + i := by omega
    rw [Array.getElem?_setIfInBounds_ne n4, Array.getElem?_setIfInBounds_ne n3, Array.getElem?_setIfInBounds_ne n2, Array.getElem?_setIfInBounds_ne n1, Array.getElem?_setIfInBounds_ne n0]

theorem tellD_len (p : Ty) : ∀ (out : List Ty) (a : Ty), (tellD out p a).length = out.length := by
  induction tyAll p with
  | mk p hs ih =>
    have hl : ∀ (l : List Ty), (∀ x ∈ l, ∀ (out : List Ty) (a : Ty), (tellD out x a).length = out.length) → ∀ (m : List Ty) (out : List Ty), (tellE out l m).length = out.length := by
      intro l
      induction l with
      | nil => intro _ m out; rw [tellE]
      | cons x r ihr =>
        intro h m out
        cases m with
        | nil => rw [tellE]
        | cons a s =>
          rw [tellE, ihr (fun y hy => h y (List.mem_cons_of_mem _ hy)), h x List.mem_cons_self]
    intro out a
    rw [tellD_eq]
    split
    · split
      · simp
      · rfl
    · split
      · exact hl p.f4 ih a.f4 out
      · rfl
theorem tellE_len : ∀ (l m : List Ty) (out : List Ty), (tellE out l m).length = out.length
  | [], m, out => by rw [tellE]
  | x :: r, [], out => by rw [tellE]
  | x :: r, a :: s, out => by rw [tellE, tellE_len r s, tellD_len]

set_option maxRecDepth 100000 in
set_option maxHeartbeats 4000000 in
theorem ref_tell_any (w0 : World) (g n co : Nat) (hg0 : w0.heap.size ≤ g) (hn : n ≤ co) {p : Ty} (hp : TyAll p) : ∀ (a : Ty) (out : List Ty) (A B : Option Addr) (c d : Nat) (w : World), out.length = n → Below w0.heap.size w0 w → DRow w0 w g out → Kd.C kTy w0 A p.f4.length p.f4 → p.f4.length ≤ c → Kd.C kTy w0 B a.f4.length a.f4 → a.f4.length ≤ d →
    Calls Try.prog 68 #[.slice (some ⟨g, 0, none⟩) n co, tyV p A c, tyV a B d] w fun e w' => (∃ v, e = .returned v) ∧ DRow w0 w' g (tellD out p a) ∧ Keeps w w' (fun k => k = g) := by
  induction hp with
  | mk t hs ih =>
  intro a out A B c d w hlen hbw hD hA hc hB hd
  have hTD := tellD_eq out t a
  have hTL := tellD_len t out a
  obtain ⟨k, p, q, m, l⟩ := t
  obtain ⟨k', p', q', m', l'⟩ := a
  simp only [tyV] at *
  have hlm : l.length ≤ 9223372036854775807 := hA.2.1
  have hlm' : l'.length ≤ 9223372036854775807 := hB.2.1
  have hgw : g < w.heap.size := hD.lt
  have HB := Lib.hid (bel_alloc (bel_alloc (Below.refl w.heap.size w) (.cells #[.int .i64 k, .string p, .string q, .int .i64 m, .slice A l.length c] 29)) (.cells #[.int .i64 k', .string p', .string q', .int .i64 m', .slice B l'.length d] 29))
  have HT := Lib.hid (blk_alloc (blk_new w (.cells #[.int .i64 k, .string p, .string q, .int .i64 m, .slice A l.length c] 29)) (.cells #[.int .i64 k', .string p', .string q', .int .i64 m', .slice B l'.length d] 29))
  have HU := Lib.hid (show ((w.alloc (.cells #[.int .i64 k, .string p, .string q, .int .i64 m, .slice A l.length c] 29)).alloc (.cells #[.int .i64 k', .string p', .string q', .int .i64 m', .slice B l'.length d] 29)).heap[w.heap.size + 1]? = some (.cells #[.int .i64 k', .string p', .string q', .int .i64 m', .slice B l'.length d] 29 (0, 0)) by simpa using blk_new (w.alloc (.cells #[.int .i64 k, .string p, .string q, .int .i64 m, .slice A l.length c] 29)) (.cells #[.int .i64 k', .string p', .string q', .int .i64 m', .slice B l'.length d] 29))
  have HA := Lib.hid hA
  have HA' := Lib.hid hB
  have HD := Lib.hid hD
  have HBW := Lib.hid hbw
  have IH := Lib.hid ih
  have hcs : ((k == 6) = true ∧ ((decide (0 ≤ m) = false) ∨ (decide (0 ≤ m) = true ∧ decide (m < (n : Int)) = false) ∨ ∃ (j : Nat) (y : Ty), m = (j : Int) ∧ out[j]? = some y ∧ j < n ∧ ((y.f0 == 0) = false ∨ ((y.f0 == 0) = true ∧ (k' != 0) = false) ∨ ((y.f0 == 0) = true ∧ (k' != 0) = true ∧ (k' != 7) = false))) ∧ tellD out ⟨k, p, q, m, l⟩ ⟨k', p', q', m', l'⟩ = out) ∨
      ((k == 6) = true ∧ ∃ (j : Nat) (y : Ty), m = (j : Int) ∧ out[j]? = some y ∧ j < n ∧ (y.f0 == 0) = true ∧ (k' != 0) = true ∧ (k' != 7) = true ∧ tellD out ⟨k, p, q, m, l⟩ ⟨k', p', q', m', l'⟩ = out.set j ⟨k', p', q', m', l'⟩) ∨
      ((k == 6) = false ∧ ((k != 5) = true ∨ ((k != 5) = false ∧ (k' != 5) = true)) ∧ tellD out ⟨k, p, q, m, l⟩ ⟨k', p', q', m', l'⟩ = out) ∨
      ((k == 6) = false ∧ (k != 5) = false ∧ (k' != 5) = false ∧ tellD out ⟨k, p, q, m, l⟩ ⟨k', p', q', m', l'⟩ = tellE out l l') := by
    rw [hTD]
    by_cases h6 : k = 6
    · rw [if_pos h6]
      by_cases h0 : 0 ≤ m
      · by_cases h1 : m < (out.length : Int)
        · obtain ⟨j, rfl⟩ : ∃ j : Nat, m = (j : Int) := ⟨m.toNat, by omega⟩
          have hj : j < out.length := by omega
          have hjy : out[j]? = some out[j] := List.getElem?_eq_getElem hj
          have hrd : rd_T29 out (j : Int) = out[j] := by
            unfold rd_T29; rw [Int.toNat_natCast, List.getD_eq_getElem?_getD, hjy]; rfl
          rw [hrd]
          by_cases hy : out[j].f0 = 0
          · by_cases q0 : k' = 0
            · exact .inl ⟨by simp [h6], .inr (.inr ⟨j, _, rfl, hjy, by omega, .inr (.inl ⟨by simp [hy], by simp [q0]⟩)⟩), by rw [if_neg (fun h => h.2.2.2.1 q0)]⟩
            · by_cases q7 : k' = 7
              · exact .inl ⟨by simp [h6], .inr (.inr ⟨j, _, rfl, hjy, by omega, .inr (.inr ⟨by simp [hy], by simp [q0], by simp [q7]⟩)⟩), by rw [if_neg (fun h => h.2.2.2.2 q7)]⟩
              · exact .inr (.inl ⟨by simp [h6], j, _, rfl, hjy, by omega, by simp [hy], by simp [q0], by simp [q7], by rw [if_pos ⟨h0, h1, hy, q0, q7⟩, Int.toNat_natCast]⟩)
          · exact .inl ⟨by simp [h6], .inr (.inr ⟨j, _, rfl, hjy, by omega, .inl (by simp [hy])⟩), by rw [if_neg (fun h => hy h.2.2.1)]⟩
        · exact .inl ⟨by simp [h6], .inr (.inl ⟨decide_eq_true h0, decide_eq_false (by omega)⟩), by rw [if_neg (fun h => h1 h.2.1)]⟩
      · exact .inl ⟨by simp [h6], .inl (decide_eq_false h0), by rw [if_neg (fun h => h0 h.1)]⟩
    · rw [if_neg h6]
      by_cases h5 : k = 5
      · by_cases h5' : k' = 5
        · exact .inr (.inr (.inr ⟨by simp [h6], by simp [h5], by simp [h5'], by rw [if_pos ⟨h5, h5'⟩]⟩))
        · exact .inr (.inr (.inl ⟨by simp [h6], .inr ⟨by simp [h5], by simp [h5']⟩, by rw [if_neg (fun h => h5' h.2)]⟩))
      · exact .inr (.inr (.inl ⟨by simp [h6], .inl (by simp [h5]), by rw [if_neg (fun h => h5 h.1)]⟩))
  have HD2 : Hid (DRow w0 ((w.alloc (.cells #[.int .i64 k, .string p, .string q, .int .i64 m, .slice A l.length c] 29)).alloc (.cells #[.int .i64 k', .string p', .string q', .int .i64 m', .slice B l'.length d] 29)) g out) := Lib.hid (hD.same (HB.out.block g hgw))
  have HLEN := Lib.hid hlen
  have HNN := Lib.hid (And.intro hc hd)
  have HX := Lib.hid (And.intro hgw hbw.size)
  clear hs ih hA hB hD hbw hTD hTL hlen hc hd hgw
  rcases hcs with ⟨z6, hz, hTE⟩ | ⟨z6, j, y, rfl, hy, hj, z1, z2, z3, hTE⟩ | ⟨z6, hz, hTE⟩ | ⟨z6, z5, z5', hTE⟩
  · rw [hTE]
    clear hTE
    rcases hz with z1 | ⟨z1, z2⟩ | ⟨j, y, rfl, hy, hj, hz⟩
    · go_enter Try.func68, Try.ntmps68
      go_wp2_with (fail)
      refine bodyPost_ret (results_none rfl _ _ _) rfl ?_
      exact ⟨⟨_, rfl⟩, HD2.out, Keeps.of_below HB.out _⟩
    · go_enter Try.func68, Try.ntmps68
      go_wp2_with (fail)
      refine bodyPost_ret (results_none rfl _ _ _) rfl ?_
      exact ⟨⟨_, rfl⟩, HD2.out, Keeps.of_below HB.out _⟩
    · obtain ⟨A6, c6, p0, _, _, _, _, _, _⟩ := HD2.out.get j y hy
      have j0 : 0 ≤ (j : Int) := by omega
      have j1 : (j : Int) < n := by omega
      rcases hz with z1 | ⟨z1, z2⟩ | ⟨z1, z2, z3⟩
      all_goals
        go_enter Try.func68, Try.ntmps68
        go_wp2_with (fail)
        refine bodyPost_ret (results_none rfl _ _ _) rfl ?_
        exact ⟨⟨_, rfl⟩, HD2.out, Keeps.of_below HB.out _⟩
  · rw [hTE]
    clear hTE
    obtain ⟨A6, c6, p0, p1, p2, p3, p4, _, _⟩ := HD2.out.get j y hy
    have f0' := HD2.out.free (j * 5)
    have f1' := HD2.out.free (j * 5 + 1)
    have f2' := HD2.out.free (j * 5 + 2)
    have f3' := HD2.out.free (j * 5 + 3)
    have f4' := HD2.out.free (j * 5 + 4)
    have j0 : 0 ≤ (j : Int) := by omega
    have j1 : (j : Int) < n := by omega
    have HPUT := Lib.hid (HD2.out.put (k := j) (by rw [HLEN.out]; exact hj) ⟨k', p', q', m', l'⟩ B d HNN.out.2 HA'.out)
    simp only at HPUT
    go_enter Try.func68, Try.ntmps68
    go_wp2_with (fail)
    refine bodyPost_ret (results_none rfl _ _ _) rfl ?_
    refine ⟨⟨_, rfl⟩, HPUT.out, ?_⟩
    iterate 5 refine Keeps.set ?_ _ _ _ (.inl rfl)
    exact Keeps.of_below HB.out _
  · rw [hTE]
    clear hTE
    rcases hz with z1 | ⟨z1, z2⟩
    all_goals
      go_enter Try.func68, Try.ntmps68
      go_wp2_with (fail)
      refine bodyPost_ret (results_none rfl _ _ _) rfl ?_
      exact ⟨⟨_, rfl⟩, HD2.out, Keeps.of_below HB.out _⟩
  · rw [hTE]
    clear hTE
    have HK := Lib.hid (Keeps.of_below HB.out (fun b => b = g))
    go_enter Try.func68, Try.ntmps68
    go_wp2_with (fail)
    go_loopw [6] (fun iv wr => ∃ j : Nat, iv = .int .i64 j ∧ Hid (j ≤ min l.length l'.length) ∧ Hid (DRow w0 wr g (tellE out (l.take j) (l'.take j))) ∧ Hid (wr.heap[w.heap.size]? = some (.cells #[.int .i64 k, .string p, .string q, .int .i64 m, .slice A l.length c] 29 (0, 0))) ∧ Hid (wr.heap[w.heap.size + 1]? = some (.cells #[.int .i64 k', .string p', .string q', .int .i64 m', .slice B l'.length d] 29 (0, 0))) ∧ Hid (Keeps w wr (fun b => b = g))) (fun iv _ => l.length - (intOf iv).toNat)
    case atStart => exact ⟨0, rfl, Lib.hid (Nat.zero_le _), Lib.hid (by simpa [tellE] using HD2.out), HT, HU, HK⟩
    case round =>
      clear HT HU HK HD2 HD HB
      obtain ⟨j, rfl, HJ, HD, HT, HU, HK⟩ := hrel
      have tt := (blk_cell HT.out 4).trans rfl
      have uu := (blk_cell HU.out 4).trans rfl
      have hfin : Hid (j = min l.length l'.length → tellE out (l.take j) (l'.take j) = tellE out l l') := Lib.hid (fun h => by rw [h, tellE_min])
      by_cases hlt : j < l.length
      · by_cases hlt' : j < l'.length
        · obtain ⟨x, hx⟩ : ∃ x, l[j]? = some x := ⟨_, List.getElem?_eq_getElem hlt⟩
          obtain ⟨y, hy⟩ : ∃ y, l'[j]? = some y := ⟨_, List.getElem?_eq_getElem hlt'⟩
          obtain ⟨ax, X4, e4, hAx, x0, x1, x2, x3, x4, lx, gx⟩ := at_T29 HA.out (j : Int) (by omega) (by omega)
          obtain ⟨ay, Y4, f4, hAy, y0, y1, y2, y3, y4, ly, gy⟩ := at_T29 HA'.out (j : Int) (by omega) (by omega)
          rw [show rd_T29 l (j : Int) = x from by unfold rd_T29; rw [Int.toNat_natCast, List.getD_eq_getElem?_getD, hx]; rfl] at x0 x1 x2 x3 x4 lx gx
          rw [show rd_T29 l' (j : Int) = y from by unfold rd_T29; rw [Int.toNat_natCast, List.getD_eq_getElem?_getD, hy]; rfl] at y0 y1 y2 y3 y4 ly gy
          rw [Int.toNat_natCast] at x0 x1 x2 x3 x4 y0 y1 y2 y3 y4
          subst hAx hAy
          have hbl := HBW.out.trans (Keeps.below (B := w0.heap.size) HK.out HX.out.2 (fun b e => by omega))
          replace x0 := cell_later hbl x0
          replace x1 := cell_later hbl x1
          replace x2 := cell_later hbl x2
          replace x3 := cell_later hbl x3
          replace x4 := cell_later hbl x4
          replace y0 := cell_later hbl y0
          replace y1 := cell_later hbl y1
          replace y2 := cell_later hbl y2
          replace y3 := cell_later hbl y3
          replace y4 := cell_later hbl y4
          have HI := Lib.hid (IH.out x (List.mem_of_getElem? hx) y (tellE out (l.take j) (l'.take j)) X4 Y4 e4 f4 wr.drew (by rw [tellE_len]; exact HLEN.out) (bel_drew hbl) (HD.out.same rfl) gx lx gy ly)
          rw [← tellE_take out l l' j x y hx hy] at HI
          have i0 : 0 ≤ (j : Int) := by omega
          have i1 : (j : Int) < l.length := by omega
          have i2 : (j : Int) < l'.length := by omega
          have HLT := Lib.hid (And.intro hlt hlt')
          clear hx hy lx gx ly gy hbl hfin
          go_wp2_with (fail)
          go_still_tail 11, (by kernel_rfl)
          change wpList _ _ _ _ _ wr.drew
          go_wp2_with (fail)
          refine HI.out.mono ?_
          rintro e w8 ⟨⟨v, rfl⟩, hd8, hk8⟩
          have HX2 := HX.out
          have hK2 := Lib.hid (Keeps.same (Keeps.drew HK.out) hk8)
          have hT2 := Lib.hid (Keeps.blk hk8 HT.out (by omega))
          have hU2 := Lib.hid (Keeps.blk hk8 HU.out (by omega))
          have hD2 := Lib.hid hd8
          clear hk8 hd8 HX2
          go_wp2_with (fail)
          go_roundw
          case rel => exact ⟨j + 1, by go_num, Lib.hid (by have := HLT.out; omega), hD2, hT2, hU2, hK2⟩
          case measure => have := HLT.out; simp [intOf]; omega
        · have i1 : (j : Int) < l.length := by omega
          have i2 : ¬ ((j : Int) < l'.length) := by omega
          have HE := Lib.hid (hfin.out (by have := HJ.out; omega))
          clear hfin
          go_wp2_with (fail)
          go_end0
          exact ⟨⟨_, rfl⟩, by rw [← HE.out]; exact HD.out, HK.out⟩
      · have i1 : ¬ ((j : Int) < l.length) := by omega
        have HE := Lib.hid (hfin.out (by have := HJ.out; omega))
        clear hfin
        go_wp2_with (fail)
        go_end0
        exact ⟨⟨_, rfl⟩, by rw [← HE.out]; exact HD.out, HK.out⟩

set_option maxRecDepth 100000 in
set_option maxHeartbeats 4000000 in
theorem ref_unify_any (l m : List Ty) (n : Int) (A B : Option Addr) (c d : Nat) (w0 w : World) (hA : Kd.C kTy w0 A l.length l) (hc : l.length ≤ c) (hB : Kd.C kTy w0 B m.length m) (hd : m.length ≤ d) (hbw : Below w0.heap.size w0 w) :
    Calls Try.prog 40 #[.slice A l.length c, .slice B m.length d, .int .i64 n] w fun e w' => ∃ A' c', e = .returned (.slice A' (unifyN l m n).length c') ∧ (unifyN l m n).length ≤ c' ∧ Kd.F kTy w' (fun b => b < w0.heap.size ∨ w.heap.size ≤ b) A' (unifyN l m n).length (unifyN l m n) ∧ Below w.heap.size w w' := by
  by_cases hn : 1 ≤ n ∧ n ≤ 16
  · obtain ⟨k, rfl⟩ : ∃ k : Nat, n = k := ⟨n.toNat, by omega⟩
    have hU : unifyN l m (k : Int) = unifyL l m k := by unfold unifyN; rw [if_pos hn, Int.toNat_natCast]
    have hlen := unifyL_len l m k
    rw [hU, ← unify_doc]
    rw [← unify_doc] at hlen
    have hn1 : ¬ ((k : Int) < 1) := by omega
    have hn2 : ¬ (16 < (k : Int)) := by omega
    have d1 : decide ((k : Int) < 1) = false := decide_eq_false hn1
    have d2 : decide (16 < (k : Int)) = false := decide_eq_false hn2
    have hk16 : k ≤ 16 := by omega
    obtain ⟨i0, hi, hz0, hz1, hz2⟩ := info_parts infoTy
    have hms : ∀ W : World, (Instr.makeSlice 24 (.int .i64 (k : Int)) (.int .i64 (k : Int))).run Try.prog W = .ok (.slice (some ⟨W.heap.size, 0, none⟩) k k) (W.alloc (.cells (madeCells #[.int .i64 0, .string ⟨#[]⟩, .string ⟨#[]⟩, .int .i64 0, .slice none 0 0] (k * 5)) 29)) := by
      intro W
      have h := run_make (P := Try.prog) W 24 29 i0 _ Try.underlying24 hi hz0 .i64 .i64 (k : Int) (k : Int) (by omega) (Int.le_refl _) (by rw [hz2]; omega) (by omega)
      rw [Int.toNat_natCast, hz1] at h
      exact h
    have hlm : l.length ≤ 9223372036854775807 := hA.2.1
    have hlm' : m.length ≤ 9223372036854775807 := hB.2.1
    have HA := Lib.hid hA
    have HA' := Lib.hid hB
    have HBW := Lib.hid hbw
    have HL := Lib.hid hlen
    have HROW := Lib.hid (DRow.made (w0 := w0) (g := w.heap.size) (k := k) (blk_new w _))
    have HB := Lib.hid (bel_alloc (Below.refl w.heap.size w) (.cells (madeCells #[.int .i64 0, .string ⟨#[]⟩, .string ⟨#[]⟩, .int .i64 0, .slice none 0 0] (k * 5)) 29))
    generalize hout : List.replicate k zTy = out at *
    have HOUT : Hid (out.length = k) := Lib.hid (by rw [← hout]; simp)
    have HG := Lib.hid hbw.size
    clear hU hA hB hbw hz0 hz1 hz2 hi hn hn1 hn2 hout hlen
    go_enter Try.func40, Try.ntmps40
    go_wp2_with (fail)
    clear hms
    generalize w.alloc (.cells (madeCells #[.int .i64 0, .string ⟨#[]⟩, .string ⟨#[]⟩, .int .i64 0, .slice none 0 0] (k * 5)) 29) = w2 at *
    go_loopw [8] (fun iv wr => ∃ j : Nat, iv = .int .i64 j ∧ Hid (j ≤ min l.length m.length) ∧ Hid (DRow w0 wr w.heap.size (tellE out (l.take j) (m.take j))) ∧ Hid (Below w.heap.size w wr)) (fun iv _ => l.length - (intOf iv).toNat)
    case atStart => exact ⟨0, rfl, Lib.hid (Nat.zero_le _), Lib.hid (by simpa [tellE] using HROW.out), HB⟩
    case round =>
      clear HROW HB
      obtain ⟨j, rfl, HJ, HD, HB⟩ := hrel
      have hfin : Hid (j = min l.length m.length → tellE out (l.take j) (m.take j) = tellE out l m) := Lib.hid (fun h => by rw [h, tellE_min])
      by_cases hlt : j < l.length
      · by_cases hlt' : j < m.length
        · obtain ⟨x, hx⟩ : ∃ x, l[j]? = some x := ⟨_, List.getElem?_eq_getElem hlt⟩
          obtain ⟨y, hy⟩ : ∃ y, m[j]? = some y := ⟨_, List.getElem?_eq_getElem hlt'⟩
          obtain ⟨ax, X4, e4, hAx, x0, x1, x2, x3, x4, lx, gx⟩ := at_T29 HA.out (j : Int) (by omega) (by omega)
          obtain ⟨ay, Y4, f4, hAy, y0, y1, y2, y3, y4, ly, gy⟩ := at_T29 HA'.out (j : Int) (by omega) (by omega)
          rw [show rd_T29 l (j : Int) = x from by unfold rd_T29; rw [Int.toNat_natCast, List.getD_eq_getElem?_getD, hx]; rfl] at x0 x1 x2 x3 x4 lx gx
          rw [show rd_T29 m (j : Int) = y from by unfold rd_T29; rw [Int.toNat_natCast, List.getD_eq_getElem?_getD, hy]; rfl] at y0 y1 y2 y3 y4 ly gy
          rw [Int.toNat_natCast] at x0 x1 x2 x3 x4 y0 y1 y2 y3 y4
          subst hAx hAy
          have hbl := HBW.out.trans (HB.out.mono HBW.out.size)
          replace x0 := cell_later hbl x0
          replace x1 := cell_later hbl x1
          replace x2 := cell_later hbl x2
          replace x3 := cell_later hbl x3
          replace x4 := cell_later hbl x4
          replace y0 := cell_later hbl y0
          replace y1 := cell_later hbl y1
          replace y2 := cell_later hbl y2
          replace y3 := cell_later hbl y3
          replace y4 := cell_later hbl y4
          have HI := Lib.hid (ref_tell_any w0 w.heap.size k k HG.out (Nat.le_refl _) (tyAll x) y (tellE out (l.take j) (m.take j)) X4 Y4 e4 f4 wr.drew (by rw [tellE_len]; exact HOUT.out) (bel_drew hbl) (HD.out.same rfl) gx lx gy ly)
          rw [← tellE_take out l m j x y hx hy] at HI
          simp only [tyV] at HI
          have i0 : 0 ≤ (j : Int) := by omega
          have i1 : (j : Int) < l.length := by omega
          have i2 : (j : Int) < m.length := by omega
          have HLT := Lib.hid (And.intro hlt hlt')
          clear hx hy lx gx ly gy hbl hfin
          go_wp2_with (fail)
          go_still_tail 9, (by kernel_rfl)
          change wpList _ _ _ _ _ wr.drew
          go_wp2_with (fail)
          refine HI.out.mono ?_
          rintro e w8 ⟨⟨v, rfl⟩, hd8, hk8⟩
          have hB2 := Lib.hid ((bel_drew HB.out).trans (Keeps.below (B := w.heap.size) hk8 HB.out.size (fun b e => by omega)))
          have hD2 := Lib.hid hd8
          clear hk8 hd8
          go_wp2_with (fail)
          go_roundw
          case rel => exact ⟨j + 1, by go_num, Lib.hid (by have := HLT.out; omega), hD2, hB2⟩
          case measure => have := HLT.out; simp [intOf]; omega
        · have i1 : (j : Int) < l.length := by omega
          have i2 : ¬ ((j : Int) < m.length) := by omega
          have HE := Lib.hid (hfin.out (by have := HJ.out; omega))
          clear hfin
          go_wp2_with (fail)
          go_ret
          have h := HD.out
          rw [HE.out] at h
          refine ⟨some ⟨w.heap.size, 0, none⟩, k, by rw [HL.out]; rfl, by rw [HL.out]; exact Nat.le_refl _, Kd.F_mono (h.F (HBW.out.trans (HB.out.mono HBW.out.size)) (by rw [HL.out]; omega)) (fun b hb => by rcases hb with hb | hb; exact .inl hb; exact .inr (by omega)), HB.out⟩
      · have i1 : ¬ ((j : Int) < l.length) := by omega
        have HE := Lib.hid (hfin.out (by have := HJ.out; omega))
        clear hfin
        go_wp2_with (fail)
        go_ret
        have h := HD.out
        rw [HE.out] at h
        refine ⟨some ⟨w.heap.size, 0, none⟩, k, by rw [HL.out]; rfl, by rw [HL.out]; exact Nat.le_refl _, Kd.F_mono (h.F (HBW.out.trans (HB.out.mono HBW.out.size)) (by rw [HL.out]; omega)) (fun b hb => by rcases hb with hb | hb; exact .inl hb; exact .inr (by omega)), HB.out⟩
  · have hU : unifyN l m n = [] := by unfold unifyN; rw [if_neg hn]
    rw [hU]
    have hcs : decide (n < 1) = true ∨ (decide (n < 1) = false ∧ decide (16 < n) = true) := by
      by_cases h1 : n < 1
      · exact .inl (decide_eq_true h1)
      · exact .inr ⟨decide_eq_false h1, decide_eq_true (by omega)⟩
    clear hU hA hB hbw hn
    rcases hcs with z1 | ⟨z1, z2⟩
    all_goals
      go_enter Try.func40, Try.ntmps40
      go_wp2_with (fail)
      go_ret
      exact ⟨none, 0, rfl, Nat.le_refl _, C_F_nil _ _ _, Below.refl _ _⟩
end Go.Proofs.Ytbhagjhhgmmcgaa
namespace Go.Proofs.Ytbhagjhhgmmcgaa
open Go.RowKit PRef Go.Proofs.YtbhagjhhgmmcgaaW.PrintWords
set_option linter.unusedVariables false
set_option linter.unusedSimpArgs false

/-- A row that the call has built: css are its elements' cells; what these lead to lies in blocks of ok, apart from the row. -/
structure OTy (W : World) (base : Nat) (ok : Nat → Prop) (v : Value) (l : List Ty) (css : List (List Value)) : Prop where
  len : css.length = l.length
  five : ∀ cs ∈ css, cs.length = 5
  el : ∀ (j : Nat) x, l[j]? = some x → ∃ cs, css[j]? = some cs ∧ Kd.FK kTy W (fun b => ok b ∧ v.ownBlock ≠ some b) x cs
  own : W.ownsRow base 29 5 v l.length css.flatten
theorem OTy.nil (W : World) (base : Nat) (ok : Nat → Prop) : OTy W base ok (.slice none 0 0) [] [] := ⟨rfl, by simp, by simp, World.ownsRow_nil ..⟩
theorem OTy.below {W W1 : World} {base : Nat} {ok : Nat → Prop} {v : Value} {l : List Ty} {css : List (List Value)} (h : OTy W base ok v l css) (hb : Below W.heap.size W W1) : OTy W1 base ok v l css :=
  ⟨h.len, h.five, fun j x hx => by
    obtain ⟨cs, h1, h2⟩ := h.el j x hx
    exact ⟨cs, h1, Kd.FK_below h2 hb⟩, own_later h.own hb⟩
theorem OTy.app {W W1 : World} {base : Nat} {ok ok' : Nat → Prop} {v : Value} {l : List Ty} {css : List (List Value)} (h : OTy W base ok v l css) (x : Ty) (cs : List Value) (hcs : cs.length = 5) (hx : Kd.FK kTy W ok' x cs)
    (hok : ∀ b, b < W.heap.size → ok' b → ok b ∧ v.ownBlock ≠ some b) {g cap : Nat} (hown : W1.ownsRow base 29 5 (.slice (some ⟨g, 0, none⟩) (l.length + 1) cap) (l.length + 1) (css.flatten ++ cs)) (hg : W.grownBy W1 v.ownBlock) (hat : v.ownBlock = some g ∨ g = W.heap.size) :
    OTy W1 base ok (.slice (some ⟨g, 0, none⟩) (l.length + 1) cap) (l ++ [x]) (css ++ [cs]) := by
  have hcc := h.five
  have hmv : ∀ (y : Ty) (c : List Value), Kd.FK kTy W (fun b => ok b ∧ v.ownBlock ≠ some b) y c → Kd.FK kTy W1 (fun b => ok b ∧ (Value.slice (some ⟨g, 0, none⟩) (l.length + 1) cap).ownBlock ≠ some b) y c := by
    intro y c hF
    refine Kd.FK_mono (Kd.FK_step (Kd.FK_bound hF) (fun k hk hlt => hg.block k hlt (fun e => hk.1.2 e.symm))) (fun k hk => ⟨hk.1.1, fun e => ?_⟩)
    have e2 : g = k := by simpa [Value.ownBlock] using e
    subst e2
    rcases hat with hat | hat
    · exact hk.1.2 hat
    · have := hk.2
      omega
  refine ⟨by simp [h.len], ?_, fun j y hy => ?_, ?_⟩
  · intro c hc
    rcases List.mem_append.1 hc with hc | hc
    · exact hcc c hc
    · simp at hc; subst hc; exact hcs
  · by_cases hj : j < l.length
    · rw [List.getElem?_append_left hj] at hy
      obtain ⟨c, h1, h2⟩ := h.el j y hy
      exact ⟨c, by rw [List.getElem?_append_left (by rw [h.len]; exact hj)]; exact h1, hmv y c h2⟩
    · have hj2 : j = l.length := by
        have := (List.getElem?_eq_some_iff.1 hy).1
        simp at this
        omega
      subst hj2
      have hyx : x = y := by simpa using hy
      subst hyx
      refine ⟨cs, by rw [← h.len]; simp, hmv x cs ?_⟩
      exact Kd.FK_mono (Kd.FK_bound hx) (fun b hb => hok b hb.2 hb.1)
  · rw [List.length_append, List.length_singleton, List.flatten_append, List.flatten_singleton]
    exact hown
theorem OTy.slice {W : World} {base : Nat} {ok : Nat → Prop} {v : Value} {l : List Ty} {css : List (List Value)} (h : OTy W base ok v l css) : ∃ A c, v = .slice A l.length c ∧ l.length ≤ c := own_slice h.own
theorem OTy.F {W : World} {base : Nat} {ok : Nat → Prop} {A : Option Addr} {n c : Nat} {l : List Ty} {css : List (List Value)} (h : OTy W base ok (.slice A n c) l css) (hm : l.length ≤ 9223372036854775807) : Kd.F kTy W (fun b => ok b ∨ base ≤ b) A l.length l := by
  intro W' hW
  rcases h.own.2 with ⟨hv, h0⟩ | ⟨g, cap, cur, hv, hg, hgb, _⟩
  · injection hv with hA _ _
    subst hA
    have hl0 : l = [] := List.eq_nil_of_length_eq_zero h0
    subst hl0
    exact ⟨rfl, by simp, fun h => absurd h (by simp)⟩
  · injection hv with hA hn _
    subst hA
    have hgb' : W'.heap[g]? = some (.cells cur 29 (0, 0)) := (hW g (.inr hg) (blk_lt hgb)).trans hgb
    refine ⟨rfl, hm, fun _ => ⟨_, rfl, fun j p hp => ?_⟩⟩
    obtain ⟨cs, hcs, hK⟩ := h.el j p hp
    have hcl : cs.length = 5 := h.five cs (List.mem_of_getElem? hcs)
    refine ⟨cs, hcl, hK W' (fun k hk hlt => hW k (.inl hk.1) hlt), fun i u hu => ?_⟩
    have hi : i < 5 := by rw [← hcl]; exact (List.getElem?_eq_some_iff.1 hu).1
    have hq : css.flatten[j * 5 + i]? = some u := by
      rw [flatten_at 5 (by decide) css h.five]
      rw [show (j * 5 + i) / 5 = j by omega, show (j * 5 + i) % 5 = i by omega, hcs]
      exact hu
    have h4 := h.own.cells (g := g) rfl _ _ hq
    have h5 : kTy.sz = 5 := rfl
    rw [h5, Addr.add_lit, Nat.zero_add, blk_cell hgb']
    rw [Addr.add_lit, Nat.zero_add, blk_cell hgb] at h4
    exact h4

theorem rsubst_end {R : Ending → World → Prop} {a : Act} {W : World} {h : Nat} {v u0 u1 u2 u3 u4 x0 x1 x2 x3 x4 : Value} (hR : W.heap[h + 1]? = some (.cells #[x0, x1, x2, x3, x4] 29 (0, 0))) (hp : a.tmps.getD 4 undef = .pointer (some ⟨h + 1, 0, none⟩)) (hd : a.defers = [])
    (hQ : R (.returned (.agg #[u0, u1, u2, u3, u4])) ((((((W.setCell ⟨h, 4, none⟩ v).setCell ⟨h + 1, 0, none⟩ u0).setCell ⟨h + 1, 1, none⟩ u1).setCell ⟨h + 1, 2, none⟩ u2).setCell ⟨h + 1, 3, none⟩ u3).setCell ⟨h + 1, 4, none⟩ u4)) :
    bodyPost Try.prog Try.f70 R .ret a ((((((W.setCell ⟨h, 4, none⟩ v).setCell ⟨h + 1, 0, none⟩ u0).setCell ⟨h + 1, 1, none⟩ u1).setCell ⟨h + 1, 2, none⟩ u2).setCell ⟨h + 1, 3, none⟩ u3).setCell ⟨h + 1, 4, none⟩ u4) := by
  have h1 := (blk_far W h 4 (h + 1) v (by omega)).trans hR
  have h2 := blk_set (blk_set (blk_set (blk_set (blk_set h1 0 u0) 1 u1) 2 u2) 3 u3) 4 u4
  exact bodyPost_ret (results_cell_row rfl a.tmps _ (h + 1) 29 #[u0, u1, u2, u3, u4] (0, 0) _ hp (h2.trans rfl) Try.underlying29 rfl (sizeTy.trans rfl)) hd hQ

/-- An element's cells, known whole: its own row. -/
theorem ty_FK_F {W : World} {ok : Nat → Prop} {x : Ty} {cs : List Value} (h : Kd.FK kTy W ok x cs) : ∃ A c, cs = [.int .i64 x.f0, .string x.f1, .string x.f2, .int .i64 x.f3, .slice A x.f4.length c] ∧ x.f4.length ≤ c ∧ Kd.F kTy W ok A x.f4.length x.f4 := by
  obtain ⟨A, c, rfl, hl, _⟩ := k29_open (Foot.now h)
  refine ⟨A, c, rfl, hl, fun W' hW => ?_⟩
  obtain ⟨A', c', he, _, g'⟩ := k29_open (h W' hW)
  simp only [List.cons.injEq, Value.slice.injEq, and_true, true_and] at he
  rw [he.1]
  exact g'
theorem ty_at_F {w : World} {ok : Nat → Prop} {A : Option Addr} {xs : List Ty} (h : Kd.F kTy w ok A xs.length xs) (i : Int) (h0 : 0 ≤ i) (h1 : i < xs.length) : ∃ ad A4 c4, A = some ad ∧ w.cell? (ad.add (i.toNat * 5)) = some (.int .i64 (rd_T29 xs i).f0) ∧ w.cell? ⟨(ad.add (i.toNat * 5)).block, (ad.add (i.toNat * 5)).off + 1, none⟩ = some (.string (rd_T29 xs i).f1) ∧ w.cell? ⟨(ad.add (i.toNat * 5)).block, (ad.add (i.toNat * 5)).off + 2, none⟩ = some (.string (rd_T29 xs i).f2) ∧
    w.cell? ⟨(ad.add (i.toNat * 5)).block, (ad.add (i.toNat * 5)).off + 3, none⟩ = some (.int .i64 (rd_T29 xs i).f3) ∧ w.cell? ⟨(ad.add (i.toNat * 5)).block, (ad.add (i.toNat * 5)).off + 4, none⟩ = some (.slice A4 (rd_T29 xs i).f4.length c4) ∧ (rd_T29 xs i).f4.length ≤ c4 ∧ Kd.F kTy w ok A4 (rd_T29 xs i).f4.length (rd_T29 xs i).f4 := by
  obtain ⟨ad, A4, c4, hA, x0, x1, x2, x3, x4, lx, _⟩ := at_T29 (Kd.F_now h) i h0 h1
  obtain ⟨ad', cs, he, hcl, hK, hcc, _⟩ := Kd.F_get h (z29 : Ty) i h0 h1
  have hrd : xs.getD i.toNat (z29 : Ty) = rd_T29 xs i := rfl
  rw [hrd] at hK
  obtain ⟨A5, c5, rfl, l5, F5⟩ := ty_FK_F hK
  rw [hA] at he
  injection he with he
  subst he
  have h4 := hcc 4 _ rfl
  have e4 : (ad.add (i.toNat * kTy.sz + 4)) = ⟨(ad.add (i.toNat * 5)).block, (ad.add (i.toNat * 5)).off + 4, none⟩ := by
    have h5 : kTy.sz = 5 := rfl
    rw [h5]
    by_cases hk : i.toNat * 5 = 0 <;> simp [Addr.add, hk, Nat.add_assoc]
  rw [e4, x4] at h4
  simp only [Option.some.injEq, Value.slice.injEq, true_and] at h4
  refine ⟨ad, A4, c4, hA, x0, x1, x2, x3, x4, lx, ?_⟩
  rw [h4.1]
  exact F5

set_option maxRecDepth 100000 in
set_option maxHeartbeats 4000000 in
theorem ref_subst_any (args : List Ty) (AA : Option Addr) (ca : Nat) (w0 : World) (low : Nat → Prop) (hlow : ∀ b, low b → b < w0.heap.size) (hAA : Kd.F kTy w0 low AA args.length args) (hca : args.length ≤ ca) {t : Ty} (ht : TyOk t) : ∀ (A : Option Addr) (c : Nat) (w : World), Below w0.heap.size w0 w → Kd.C kTy w A t.f4.length t.f4 → t.f4.length ≤ c →
    Calls Try.prog 70 #[tyV t A c, .slice AA args.length ca] w fun e w' => ∃ A' c', e = .returned (tyV (substT args t) A' c') ∧ (substT args t).f4.length ≤ c' ∧ Kd.F kTy w' (fun b => low b ∨ w.heap.size ≤ b) A' (substT args t).f4.length (substT args t).f4 ∧ Below w.heap.size w w' := by
  induction ht with
  | mk t hlen hs ih =>
  intro A c w hbw h hc
  have IH := Lib.hid ih
  clear hs ih
  obtain ⟨f0, f1, f2, f3, l⟩ := t
  simp only [tyV] at *
  have HBW := Lib.hid hbw
  have HAA := Lib.hid hAA
  have ham : args.length ≤ 9223372036854775807 := (Kd.F_now hAA).2.1
  have HLOW := Lib.hid hlow
  have hlm : l.length ≤ 9223372036854775807 := h.2.1
  have HLEN := Lib.hid hlen
  have HCL := Lib.hid (And.intro h hc)
  have hcs : (((f0 == 6) = false) ∨ ((f0 == 6) = true ∧ decide (0 ≤ f3) = false) ∨ ((f0 == 6) = true ∧ decide (0 ≤ f3) = true ∧ decide (f3 < (args.length : Int)) = false)) ∧ substT args ⟨f0, f1, f2, f3, l⟩ = ⟨f0, f1, f2, f3, l.map (substT args)⟩ ∨ (f0 = 6 ∧ 0 ≤ f3 ∧ f3 < (args.length : Int)) := by
    by_cases hp : f0 = 6 ∧ 0 ≤ f3 ∧ f3 < (args.length : Int)
    · exact .inr hp
    · refine .inl ⟨?_, by rw [substT, if_neg hp, substL_map]⟩
      by_cases h6 : f0 = 6
      · subst h6
        by_cases h3 : 0 ≤ f3
        · exact .inr (.inr ⟨rfl, decide_eq_true h3, decide_eq_false (fun h => hp ⟨rfl, h3, h⟩)⟩)
        · exact .inr (.inl ⟨rfl, decide_eq_false h3⟩)
      · exact .inl (by simpa using h6)
  have HB0 := Lib.hid (bel_alloc (bel_alloc (Below.refl w.heap.size w) (.cells #[.int .i64 f0, .string f1, .string f2, .int .i64 f3, .slice A l.length c] 29)) (.cells #[.int .i64 0, .string ⟨#[]⟩, .string ⟨#[]⟩, .int .i64 0, .slice none 0 0] 29))
  have HN0 := Lib.hid (blk_alloc (blk_new w (.cells #[.int .i64 f0, .string f1, .string f2, .int .i64 f3, .slice A l.length c] 29)) (.cells #[.int .i64 0, .string ⟨#[]⟩, .string ⟨#[]⟩, .int .i64 0, .slice none 0 0] 29))
  have HR0 := Lib.hid (show ((w.alloc (.cells #[.int .i64 f0, .string f1, .string f2, .int .i64 f3, .slice A l.length c] 29)).alloc (.cells #[.int .i64 0, .string ⟨#[]⟩, .string ⟨#[]⟩, .int .i64 0, .slice none 0 0] 29)).heap[w.heap.size + 1]? = some (.cells #[.int .i64 0, .string ⟨#[]⟩, .string ⟨#[]⟩, .int .i64 0, .slice none 0 0] 29 (0, 0)) by simpa using blk_new (w.alloc (.cells #[.int .i64 f0, .string f1, .string f2, .int .i64 f3, .slice A l.length c] 29)) (.cells #[.int .i64 0, .string ⟨#[]⟩, .string ⟨#[]⟩, .int .i64 0, .slice none 0 0] 29))
  have HSZ : Hid (((w.alloc (.cells #[.int .i64 f0, .string f1, .string f2, .int .i64 f3, .slice A l.length c] 29)).alloc (.cells #[.int .i64 0, .string ⟨#[]⟩, .string ⟨#[]⟩, .int .i64 0, .slice none 0 0] 29)).heap.size = w.heap.size + 2) := Lib.hid (by simp)
  clear h hlen
  rcases hcs with ⟨hcs, hsub⟩ | ⟨h6, h3, h4⟩
  rotate_left
  · subst h6
    have hs : substT args ⟨6, f1, f2, f3, l⟩ = rd_T29 args f3 := by rw [substT, if_pos ⟨rfl, h3, h4⟩]
    rw [hs]
    obtain ⟨ad, X4, e4, hA4, x0, x1, x2, x3, x4, lx, gx⟩ := ty_at_F HAA.out f3 h3 h4
    generalize rd_T29 args f3 = y at *
    subst hA4
    have hbl := bel_trans HBW.out HB0.out
    replace x0 := cell_later hbl x0
    replace x1 := cell_later hbl x1
    replace x2 := cell_later hbl x2
    replace x3 := cell_later hbl x3
    replace x4 := cell_later hbl x4
    have z1 : ((6 : Int) == 6) = true := rfl
    have z2 : decide (0 ≤ f3) = true := decide_eq_true h3
    have z3 : decide (f3 < (args.length : Int)) = true := decide_eq_true h4
    have HGX := Lib.hid (And.intro gx lx)
    have HS0 := Lib.hid hbw.size
    have HF : Hid (∀ W : World, Below w0.heap.size w0 W → Kd.F kTy W low X4 y.f4.length y.f4) := Lib.hid (fun W hb => Kd.F_step gx (fun k hk hlt => hb.block k hlt))
    have n3 := (blk_cell HN0.out 3).trans rfl
    have r0 := (blk_cell HR0.out 0).trans rfl
    have r1 := (blk_cell HR0.out 1).trans rfl
    have r2 := (blk_cell HR0.out 2).trans rfl
    have r3 := (blk_cell HR0.out 3).trans rfl
    have r4 := (blk_cell HR0.out 4).trans rfl
    have g0 := blk_free HR0.out 0
    have g1 := blk_free HR0.out 1
    have g2 := blk_free HR0.out 2
    have g3 := blk_free HR0.out 3
    have g4 := blk_free HR0.out 4
    clear hs hbl gx IH hbw hAA hlow
    go_enter Try.func70, Try.ntmps70
    go_upto_region 2 with (fail)
    generalize (w.alloc (.cells #[.int .i64 6, .string f1, .string f2, .int .i64 f3, .slice A l.length c] 29)).alloc (.cells #[.int .i64 0, .string ⟨#[]⟩, .string ⟨#[]⟩, .int .i64 0, .slice none 0 0] 29) = w1 at *
    go_wp2_with (fail)
    have h2 := blk_set (blk_set (blk_set (blk_set (blk_set HR0.out 0 (.int .i64 y.f0)) 1 (.string y.f1)) 2 (.string y.f2)) 3 (.int .i64 y.f3)) 4 (.slice X4 y.f4.length e4)
    refine bodyPost_ret (results_cell_row rfl _ _ (w.heap.size + 1) 29 #[.int .i64 y.f0, .string y.f1, .string y.f2, .int .i64 y.f3, .slice X4 y.f4.length e4] (0, 0) _ rfl (h2.trans rfl) Try.underlying29 rfl (sizeTy.trans rfl)) rfl ?_
    refine ⟨X4, e4, rfl, HGX.out.2, ?_, ?_⟩
    · refine Kd.F_mono (Kd.F_step (HF.out _ (bel_trans HBW.out HB0.out)) (fun b hb _ => ?_)) (fun b hb => .inl hb)
      have hs0 := HS0.out
      have hlb := HLOW.out b hb
      have hne : b ≠ w.heap.size + 1 := by omega
      rw [blk_far _ _ _ _ _ hne, blk_far _ _ _ _ _ hne, blk_far _ _ _ _ _ hne, blk_far _ _ _ _ _ hne, blk_far _ _ _ _ _ hne]
    · iterate 5 refine Below.setCell ?_ (by simp only; omega) _
      exact HB0.out
  rw [hsub]
  clear hsub hbw hAA hlow
  obtain ⟨i0, hi, hz0, hz1, hz2⟩ := info_parts infoTy
  rcases hcs with z1 | ⟨z1, z2⟩ | ⟨z1, z2, z3⟩
  all_goals
    go_enter Try.func70, Try.ntmps70
    go_wp2_with (fail)
    go_loopw [5, 6] (fun vv iv wr => ∃ (j : Nat) (css : List (List Value)), iv = .int .i64 j ∧ Hid (j ≤ l.length) ∧ Hid (OTy wr (w.heap.size + 2) (fun b => low b ∨ w.heap.size + 2 ≤ b) vv ((l.take j).map (substT args)) css) ∧ Hid (Below w.heap.size w wr) ∧ Hid (wr.heap[w.heap.size]? = some (.cells #[.int .i64 f0, .string f1, .string f2, .int .i64 f3, .slice A l.length c] 29 (0, 0))) ∧ Hid (wr.heap[w.heap.size + 1]? = some (.cells #[.int .i64 0, .string ⟨#[]⟩, .string ⟨#[]⟩, .int .i64 0, .slice none 0 0] 29 (0, 0))) ∧ Hid (w.heap.size + 2 ≤ wr.heap.size)) (fun _ iv _ => l.length - (intOf iv).toNat)
    case atStart => exact ⟨0, [], rfl, Lib.hid (Nat.zero_le _), Lib.hid (OTy.nil _ _ _), HB0, HN0, HR0, Lib.hid (by have := HSZ.out; omega)⟩
    case round =>

      clear HN0 HR0 HB0 HSZ
      obtain ⟨j, css, rfl, HJ, HO, HB, HN, HR, HSZ⟩ := hrel
      have q4 := (blk_cell HN.out 4).trans rfl
      by_cases hlt : j < l.length
      · obtain ⟨x, hx⟩ : ∃ x, l[j]? = some x := ⟨_, List.getElem?_eq_getElem hlt⟩
        obtain ⟨ax, X4, e4, hAx, x0, x1, x2, x3, x4, lx, gx⟩ := at_T29 HCL.out.1 (j : Int) (by omega) (by omega)
        rw [show rd_T29 l (j : Int) = x from by unfold rd_T29; rw [Int.toNat_natCast, List.getD_eq_getElem?_getD, hx]; rfl] at x0 x1 x2 x3 x4 lx gx
        rw [Int.toNat_natCast] at x0 x1 x2 x3 x4
        subst hAx
        replace x0 := cell_later HB.out x0
        replace x1 := cell_later HB.out x1
        replace x2 := cell_later HB.out x2
        replace x3 := cell_later HB.out x3
        replace x4 := cell_later HB.out x4
        have HSUB := Lib.hid (IH.out x (List.mem_of_getElem? hx) X4 e4 wr (bel_trans HBW.out HB.out) (Kd.C_below gx HB.out) lx)
        have j0 : 0 ≤ (j : Int) := by omega
        have j1 : (j : Int) < l.length := by omega
        have HLT : Hid (j + 1 ≤ l.length) := Lib.hid hlt
        have HMP : Hid ((l.take (j + 1)).map (substT args) = (l.take j).map (substT args) ++ [substT args x]) := Lib.hid (by
          obtain ⟨hk, rfl⟩ := List.getElem?_eq_some_iff.1 hx
          rw [List.take_succ_eq_append_getElem hk, List.map_append]; rfl)
        have HTL : Hid (((l.take j).map (substT args)).length = j) := Lib.hid (by simp; omega)
        have hjb : (j + 1) * 72 ≤ 140737488355328 := by have := HLEN.out; omega
        generalize (l.take j).map (substT args) = lj at *
        generalize substT args x = y at *
        clear hx lx gx
        go_wp2_with (fail)
        refine HSUB.out.mono ?_
        rintro e w3 ⟨A5, c5, rfl, hc5, hF, hb3⟩
        have HO3 := Lib.hid (HO.out.below hb3)
        have HN3 := Lib.hid (blk_later hb3 HN.out)
        have HR3 := Lib.hid (blk_later hb3 HR.out)
        have HB3 := Lib.hid (bel_trans HB.out hb3)
        have HS3 : Hid (w.heap.size + 2 ≤ w3.heap.size) := Lib.hid (by have := HSZ.out; have := hb3.size; omega)
        have HV3 : Hid (∀ b, u5.ownBlock = some b → w.heap.size + 2 ≤ b ∧ b < wr.heap.size) := Lib.hid (fun b hb => HO.out.own.lt b hb)
        have HF3 : Hid (Kd.FK kTy w3 (fun b => low b ∨ wr.heap.size ≤ b) y [.int .i64 y.f0, .string y.f1, .string y.f2, .int .i64 y.f3, .slice A5 y.f4.length c5]) := Lib.hid (fun W' hW => k29_mk W' y hc5 (hF W' (fun b hb hlt => hW b hb hlt)))
        clear hb3 hF HSUB HO HB HN HR q4 x0 x1 x2 x3 x4
        have HO4 := Lib.hid (HO3.out.below (bel_alloc (Below.refl w3.heap.size w3) (.cells #[.int .i64 y.f0, .string y.f1, .string y.f2, .int .i64 y.f3, .slice A5 y.f4.length c5] 29)))
        have HOW := HO4.out.own
        rw [HTL.out] at HOW
        go_wp2_with (at_builtin; go_loud (refine wpList_append_lies _ rfl _ _ 24 rfl (w.heap.size + 2) 29 i0 (.agg #[.int .i64 0, .string ⟨#[]⟩, .string ⟨#[]⟩, .int .i64 0, .slice none 0 0]) 5 72 Try.underlying24 hi hz0 hz1 hz2 rfl (by decide) u5 j css.flatten rfl HOW ⟨w3.heap.size, 0, none⟩ 1 1 [.int .i64 y.f0, .string y.f1, .string y.f2, .int .i64 y.f3, .slice A5 y.f4.length c5] rfl rfl ?c1 ?c2 (by decide) ?c3 ?c4 ?c5 (w3.heap.size + 1) ?c6 ?_))
        case c1 =>
          intro j u hu
          rw [Addr.add_lit, Nat.zero_add, blk_cell (blk_new w3 _) j]
          simpa using hu
        case c2 => intro u hu; simp at hu; rcases hu with rfl | rfl | rfl | rfl | rfl <;> rfl
        case c3 => unfold maxLen; omega
        case c4 => omega
        case c5 => have := HS3.out; simp; omega
        case c6 => simp
        intro g cap w4 hown4 hg4 hat4 hlt4
        have hat5 : u5.ownBlock = some g ∨ g = (w3.alloc (.cells #[.int .i64 y.f0, .string y.f1, .string y.f2, .int .i64 y.f3, .slice A5 y.f4.length c5] 29)).heap.size := by simpa using hat4
        have hV := HV3.out
        have hS3 := HS3.out
        have hS0 := HBW.out.size
        have hbb := HB3.out.size
        have hO5 := HO4.out.app y _ rfl (Kd.FK_below HF3.out (bel_alloc (Below.refl w3.heap.size w3) _)) (fun b hb hk => by
          refine ⟨?_, fun e => ?_⟩
          · rcases hk with hk | hk
            · exact .inl hk
            · exact .inr (by have := HSZ.out; omega)
          · have h1 := hV b e
            rcases hk with hk | hk
            · have := HLOW.out b hk
              omega
            · omega) (g := g) (cap := cap) (by rw [HTL.out]; exact hown4) hg4 hat5
        rw [HTL.out, ← HMP.out] at hO5
        have HO5 := Lib.hid hO5
        have hne : ∀ b, b < w.heap.size + 2 → some b ≠ u5.ownBlock := fun b hb e => by have := (hV b e.symm).1; omega
        have HN5 := Lib.hid ((hg4.block w.heap.size (by simp; omega) (hne _ (by omega))).trans (blk_alloc HN3.out _))
        have HR5 : Hid (w4.heap[w.heap.size + 1]? = some (.cells #[.int .i64 0, .string ⟨#[]⟩, .string ⟨#[]⟩, .int .i64 0, .slice none 0 0] 29 (0, 0))) := Lib.hid ((hg4.block _ (by simp; omega) (hne _ (by omega))).trans (blk_alloc HR3.out _))
        have HB5 : Hid (Below w.heap.size w w4) := Lib.hid (Below.grown (bel_alloc HB3.out _) hg4 (by simp; omega) (fun b hb => by have := (hV b hb).1; omega))
        have HS5 : Hid (w.heap.size + 2 ≤ w4.heap.size) := Lib.hid (by have := hg4.size; simp at this; omega)
        clear hO5 hne hown4 hg4 hat4 hat5 hlt4 hV HOW HO4 HO3 HN3 HR3 HB3 HF3 hbb hS3
        go_wp2_with (fail)
        go_roundw
        case rel => exact ⟨j + 1, _, by go_num, HLT, HO5, HB5, HN5, HR5, HS5⟩
        case measure => have := HLT.out; simp [intOf]; omega
      · obtain rfl : j = l.length := by have := HJ.out; omega
        obtain ⟨A7, c7, rfl, hc7⟩ := HO.out.slice
        have hF7 := HO.out.F (by simp; have := HLEN.out; omega)
        rw [List.take_length] at hF7 hc7
        have HF7 := Lib.hid hF7
        have HC7 := Lib.hid hc7
        have hl7 : ((l.take l.length).map (substT args)).length = l.length := by simp
        have hl8 : (l.map (substT args)).length = l.length := by simp
        rw [hl7] at *
        have q0 : wr.cell? ⟨w.heap.size, 0, none⟩ = some (.int .i64 f0) := (blk_cell HN.out 0).trans rfl
        have q1 : wr.cell? ⟨w.heap.size, 1, none⟩ = some (.string f1) := (blk_cell HN.out 1).trans rfl
        have q2 : wr.cell? ⟨w.heap.size, 2, none⟩ = some (.string f2) := (blk_cell HN.out 2).trans rfl
        have q3 : wr.cell? ⟨w.heap.size, 3, none⟩ = some (.int .i64 f3) := (blk_cell HN.out 3).trans rfl
        have fr4 := blk_free HN.out 4
        have r0 : wr.cell? ⟨w.heap.size + 1, 0, none⟩ = some (.int .i64 0) := (blk_cell HR.out 0).trans rfl
        have r1 : wr.cell? ⟨w.heap.size + 1, 1, none⟩ = some (.string ⟨#[]⟩) := (blk_cell HR.out 1).trans rfl
        have r2 : wr.cell? ⟨w.heap.size + 1, 2, none⟩ = some (.string ⟨#[]⟩) := (blk_cell HR.out 2).trans rfl
        have r3 : wr.cell? ⟨w.heap.size + 1, 3, none⟩ = some (.int .i64 0) := (blk_cell HR.out 3).trans rfl
        have r4 : wr.cell? ⟨w.heap.size + 1, 4, none⟩ = some (.slice none 0 0) := (blk_cell HR.out 4).trans rfl
        have g0 := blk_free HR.out 0
        have g1 := blk_free HR.out 1
        have g2 := blk_free HR.out 2
        have g3 := blk_free HR.out 3
        have g4 := blk_free HR.out 4
        have HS0 := Lib.hid HBW.out.size
        clear hF7 hc7 HO HSZ
        go_wp2_with (fail)
        refine rsubst_end HR.out rfl rfl ?_
        refine ⟨A7, c7, rfl, by rw [← hl8]; exact HC7.out, ?_, ?_⟩
        · have hS0 := HS0.out
          exact Kd.F_mono (Kd.F_step (hl8 ▸ HF7.out) (fun b hb _ => six_far _ _ _ _ _ _ _ _ b (by rcases hb with (hb | hb) | hb; (have := HLOW.out b hb; omega); omega; omega) (by rcases hb with (hb | hb) | hb; (have := HLOW.out b hb; omega); omega; omega))) (fun b hb => by rcases hb with (hb | hb) | hb; exact .inl hb; exact .inr (by omega); exact .inr (by omega))
        · iterate 6 refine Below.setCell ?_ (by simp only; omega) _
          exact HB.out
end Go.Proofs.Ytbhagjhhgmmcgaa
