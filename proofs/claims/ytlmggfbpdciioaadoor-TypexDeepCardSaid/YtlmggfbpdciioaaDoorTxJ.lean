/- typex.Parse. typex, plain: lists around a type. typex.Parse: its loop. -/
import Derived.Test.YtlmggfbpdciioaaDoorTxG
import Derived.Test.YtlmggfbpdciioaaDoorSMapI
namespace Go.Proofs.YtlmggfbpdciioaaDoor
open Go.RowKit PRef Go.Proofs.YtlmggfbpdciioaaDoorW.PrintWords
set_option linter.unusedVariables false
set_option linter.unusedSimpArgs false

theorem J_tok {A : Option Addr} {c : Nat} {L : List S31} (hl : L.length ≤ 140737488351232) (hc : L.length ≤ c) {w : World} (hC : Kd.C k31 w A L.length L) (x : Int) (t : S31) (ht : tokP L x = t) :
    Hid (∀ w', Below w.heap.size w w' → Calls Tryd.prog 31 #[.slice A L.length c, .int .i64 x] w' fun e w'' => e = .returned (.agg #[.int .i64 t.f0, .int .i64 t.f1, .int .i64 t.f2, .string t.f3]) ∧ Below w'.heap.size w' w'') :=
  Lib.hid (fun w' hb => by
    have := token_any' A c L x (by omega) w' (Kd.C_below hC hb) hc
    rw [ht] at this
    exact this)
theorem J_is (t : S31) (s : ByteArray) (b : Bool) (h : isP t s = b) :
    Hid (∀ w', Calls Tryd.prog 32 #[.agg #[.int .i64 t.f0, .int .i64 t.f1, .int .i64 t.f2, .string t.f3], .string s] w' fun e w'' => e = .returned (.bool b) ∧ Below w'.heap.size w' w'') :=
  Lib.hid (fun w' => by subst h; exact symbol_any t s w')
theorem J_fail (t : S31) (k : Int) :
    Hid (∀ w', Calls Tryd.prog 30 #[.agg #[.int .i64 t.f0, .int .i64 t.f1, .int .i64 t.f2, .string t.f3], .int .i64 k] w' fun e W => ∃ A m, e = .returned (.tuple #[.agg #[.int .i64 0, .int .i64 0, .string ⟨#[]⟩, .string ⟨#[]⟩, .slice A 0 m], .int .i64 0, .agg #[.int .i64 t.f1, .int .i64 k]]) ∧ Below w'.heap.size w' W) :=
  Lib.hid (fun w' => (fails_any' t k w').mono fun e W h => by
    obtain ⟨A, m, h1, _, _, h2⟩ := h
    exact ⟨A, m, h1, h2⟩)

set_option maxRecDepth 100000 in
set_option maxHeartbeats 4000000 in
theorem parse_below (A : Option Addr) (c : Nat) (L : List S31) (hl : L.length ≤ 140737488351232) (hc : L.length ≤ c) (a : Int) (hn : a < 0) (w : World) (hC : Kd.C k31 w A L.length L) :
    Calls Tryd.prog 24 #[.slice A L.length c, .int .i64 a] w (OutR (failP (tokP L a) 5) w) := by
  have HA := J_tok hl hc hC a _ rfl
  have HF := J_fail (tokP L a) 5
  generalize tokP L a = t at *
  clear hC hc hl
  have HB := Lib.hid (bel_alloc (bel_alloc (Below.refl w.heap.size w) box38) box25)
  have R := Lib.hid (blk_alloc (blk_new w box38) box25)
  have S := Lib.hid (blk_new1 w box38 box25)
  go_enter Tryd.func24, Tryd.ntmps24
  go_wp2_with (fail)
  refine wp_scope_straight ?_
  go_wp2_with (fail)
  refine (HA.out _ HB.out).mono ?_
  rintro e1 w1 ⟨rfl, hb⟩
  replace HB := Lib.hid (bel_trans HB.out hb)
  replace R := Lib.hid (blk_later hb R.out)
  replace S := Lib.hid (blk_later hb S.out)
  clear hb
  go_wp2_with (first | (go_at_call 30; refine (HF.out _).mono ?_; rintro e2 w2 ⟨A', m', rfl, hb⟩; replace HB := Lib.hid (bel_trans HB.out hb); replace R := Lib.hid (blk_later hb R.out); replace S := Lib.hid (blk_later hb S.out); clear hb; have R1 := R.out; have S1 := S.out; have r0 := (blk_cell R1 0).trans rfl; have r1 := (blk_cell R1 1).trans rfl; have r2 := (blk_cell R1 2).trans rfl; have r3 := (blk_cell R1 3).trans rfl; have r4 := (blk_cell R1 4).trans rfl; have f0 := blk_free R1 0; have f1 := blk_free R1 1; have f2 := blk_free R1 2; have f3 := blk_free R1 3; have f4 := blk_free R1 4; have s0 := (blk_cell S1 0).trans rfl; have s1 := (blk_cell S1 1).trans rfl; have g0 := blk_free S1 0; have g1 := blk_free S1 1; clear R1 S1))
  rw [Exit.noGoto_ret]
  exact out_end rfl R.out S.out HB.out rfl rfl rfl rfl (Nat.zero_le _) (F_nil' _ _ _) _ rfl
set_option maxRecDepth 100000 in
set_option maxHeartbeats 4000000 in
theorem parse_beyond (A : Option Addr) (c : Nat) (L : List S31) (hl : L.length ≤ 140737488351232) (hc : L.length ≤ c) (a : Int) (hn : ¬ a < 0) (hg : (L.length : Int) < a) (w : World) (hC : Kd.C k31 w A L.length L) :
    Calls Tryd.prog 24 #[.slice A L.length c, .int .i64 a] w (OutR (failP (tokP L a) 5) w) := by
  have HA := J_tok hl hc hC a _ rfl
  have HF := J_fail (tokP L a) 5
  generalize tokP L a = t at *
  clear hC hc hl
  have HB := Lib.hid (bel_alloc (bel_alloc (Below.refl w.heap.size w) box38) box25)
  have R := Lib.hid (blk_alloc (blk_new w box38) box25)
  have S := Lib.hid (blk_new1 w box38 box25)
  go_enter Tryd.func24, Tryd.ntmps24
  go_wp2_with (fail)
  refine wp_scope_straight ?_
  go_wp2_with (fail)
  refine (HA.out _ HB.out).mono ?_
  rintro e1 w1 ⟨rfl, hb⟩
  replace HB := Lib.hid (bel_trans HB.out hb)
  replace R := Lib.hid (blk_later hb R.out)
  replace S := Lib.hid (blk_later hb S.out)
  clear hb
  go_wp2_with (first | (go_at_call 30; refine (HF.out _).mono ?_; rintro e2 w2 ⟨A', m', rfl, hb⟩; replace HB := Lib.hid (bel_trans HB.out hb); replace R := Lib.hid (blk_later hb R.out); replace S := Lib.hid (blk_later hb S.out); clear hb; have R1 := R.out; have S1 := S.out; have r0 := (blk_cell R1 0).trans rfl; have r1 := (blk_cell R1 1).trans rfl; have r2 := (blk_cell R1 2).trans rfl; have r3 := (blk_cell R1 3).trans rfl; have r4 := (blk_cell R1 4).trans rfl; have f0 := blk_free R1 0; have f1 := blk_free R1 1; have f2 := blk_free R1 2; have f3 := blk_free R1 3; have f4 := blk_free R1 4; have s0 := (blk_cell S1 0).trans rfl; have s1 := (blk_cell S1 1).trans rfl; have g0 := blk_free S1 0; have g1 := blk_free S1 1; clear R1 S1))
  rw [Exit.noGoto_ret]
  exact out_end rfl R.out S.out HB.out rfl rfl rfl rfl (Nat.zero_le _) (F_nil' _ _ _) _ rfl
end Go.Proofs.YtlmggfbpdciioaaDoor
namespace Go.Proofs.YtlmggfbpdciioaaDoor
open Go.RowKit PRef Go.Proofs.YtlmggfbpdciioaaDoorW.PrintWords
set_option linter.unusedVariables false
set_option linter.unusedSimpArgs false

/-- A list of x that begins there. -/
def nest1 (f : Int) (x : S38) : S38 := ⟨5, f, ⟨#[]⟩, ⟨#[]⟩, [x]⟩
theorem wraps_fail (da dc : Int) (h : dc ≠ 0) : ∀ ls : List Int, ls.foldr wrapR (z38, 0, da, dc) = (z38, 0, da, dc)
  | [] => rfl
  | f :: ls => by
    rw [List.foldr_cons, wraps_fail da dc h ls]
    exact if_neg h
theorem wraps_ok (x : S38) (n : Int) : ∀ ls : List Int, ls.foldr wrapR (x, n, 0, 0) = (ls.foldr nest1 x, n, 0, 0)
  | [] => rfl
  | f :: ls => by
    rw [List.foldr_cons, wraps_ok x n ls, List.foldr_cons]
    exact if_pos rfl
/-- One list more is open. -/
theorem deep_in {L : List S31} {d : Nat} {a : Int} {ls : List Int} {r : TyR} (h : r = ls.foldr wrapR (deepP L (d + 1) a)) (ho : isP (tokP L a) bOpen = true) (hs : isP (tokP L (a + 1)) bShut = true) :
    r = (ls ++ [(tokP L a).f1]).foldr wrapR (deepP L d (a + 2)) := by
  rw [h, deepP, if_pos ho, if_pos hs, List.foldr_append]
  rfl
theorem deep_leaf_of {L : List S31} {d : Nat} {a : Int} (ho : isP (tokP L a) bOpen = false) : deepP L d a = leafP L a := by
  cases d <;> (unfold deepP; rw [if_neg (by rw [ho]; simp)])
theorem deep_zero_of {L : List S31} {a : Int} (ho : isP (tokP L a) bOpen = true) : deepP L 0 a = failP (tokP L a) 6 := by
  unfold deepP; rw [if_pos ho]
theorem deep_unshut_of {L : List S31} {d : Nat} {a : Int} (ho : isP (tokP L a) bOpen = true) (hs : isP (tokP L (a + 1)) bShut = false) : deepP L (d + 1) a = failP (tokP L (a + 1)) 5 := by
  rw [deepP, if_pos ho, if_neg (by rw [hs]; simp)]
end Go.Proofs.YtlmggfbpdciioaaDoor
namespace Go.Proofs.YtlmggfbpdciioaaDoor
open Go.RowKit PRef Go.Proofs.YtlmggfbpdciioaaDoorW.PrintWords
set_option linter.unusedVariables false
set_option linter.unusedSimpArgs false

theorem info3w : (Tryd.prog.info? 3).map (fun i => (i.zero, i.size, i.bytes)) = some (some (.int .i64 0), 1, 8) := by kernel_rfl
def ints (ls : List Int) : List Value := ls.map fun x => .int .i64 x
/-- Parse's world within its loop: what it hands back is not laid yet; the places of the lists so far are its own row. -/
structure PI (w W : World) (v : Value) (ls : List Int) : Prop where
  bel : Below w.heap.size w W
  r : W.heap[w.heap.size]? = some (.cells #[.int .i64 0, .int .i64 0, .string ⟨#[]⟩, .string ⟨#[]⟩, .slice none 0 0] 38 (0, 0))
  s : W.heap[w.heap.size + 1]? = some (.cells #[.int .i64 0, .int .i64 0] 25 (0, 0))
  own : W.ownsRow w.heap.size 3 1 v ls.length (ints ls)
theorem PI.later {w W W' : World} {v : Value} {ls : List Int} (h : PI w W v ls) (hb : Below W.heap.size W W') : PI w W' v ls :=
  ⟨bel_trans h.bel hb, blk_later hb h.r, blk_later hb h.s, own_later h.own hb⟩
theorem PI.grown {w W W' : World} {v v' : Value} {ls : List Int} {x : Int} (h : PI w W v ls) (ho : W'.ownsRow w.heap.size 3 1 v' (ls.length + 1) (ints ls ++ [.int .i64 x])) (hg : W.grownBy W' v.ownBlock) : PI w W' v' (ls ++ [x]) := by
  have hn1 := own_ne h.own h.r (by intros; simp)
  have hn2 := own_ne h.own h.s (by intros; simp)
  refine ⟨Below.grown h.bel hg h.bel.size (fun k hk => (h.own.lt k hk).1), ?_, ?_, ?_⟩
  · exact (hg.block _ (blk_lt h.r) (fun e => hn1 e.symm)).trans h.r
  · exact (hg.block _ (blk_lt h.s) (fun e => hn2 e.symm)).trans h.s
  · simpa [ints] using ho

/-- The words of types, as the map holds them. -/
def kwF : List UInt8 → Option Value := fun x => if x = [116, 101, 120, 116] then some (.int .i64 3) else if x = [98, 111, 111, 108] then some (.int .i64 2) else if x = [105, 110, 116] then some (.int .i64 1) else none
def kwK (s : ByteArray) : Int := if s = bText then 3 else if s = bBool then 2 else if s = bInt then 1 else 0
def kwB (s : ByteArray) : Bool := decide (s = bText ∨ s = bBool ∨ s = bInt)
theorem ba_list (s : ByteArray) (c : ByteArray) : s.data.toList = c.data.toList ↔ s = c := ⟨fun h => ba_ext h, fun h => by rw [h]⟩
theorem kw_get (s : ByteArray) : (kwF s.data.toList).getD (.int .i64 0) = .int .i64 (kwK s) := by
  have h1 := ba_list s bText
  have h2 := ba_list s bBool
  have h3 := ba_list s bInt
  have e1 : bText.data.toList = [116, 101, 120, 116] := rfl
  have e2 : bBool.data.toList = [98, 111, 111, 108] := rfl
  have e3 : bInt.data.toList = [105, 110, 116] := rfl
  rw [e1] at h1
  rw [e2] at h2
  rw [e3] at h3
  unfold kwF kwK
  simp only [h1, h2, h3]
  by_cases g1 : s = bText
  · rw [if_pos g1, if_pos g1]; rfl
  · by_cases g2 : s = bBool
    · rw [if_neg g1, if_neg g1, if_pos g2, if_pos g2]; rfl
    · by_cases g3 : s = bInt
      · rw [if_neg g1, if_neg g1, if_neg g2, if_neg g2, if_pos g3, if_pos g3]; rfl
      · rw [if_neg g1, if_neg g1, if_neg g2, if_neg g2, if_neg g3, if_neg g3]; rfl
theorem kw_is (s : ByteArray) : (kwF s.data.toList).isSome = kwB s := by
  have h1 := ba_list s bText
  have h2 := ba_list s bBool
  have h3 := ba_list s bInt
  have e1 : bText.data.toList = [116, 101, 120, 116] := rfl
  have e2 : bBool.data.toList = [98, 111, 111, 108] := rfl
  have e3 : bInt.data.toList = [105, 110, 116] := rfl
  rw [e1] at h1
  rw [e2] at h2
  rw [e3] at h3
  unfold kwF kwB
  simp only [h1, h2, h3]
  by_cases g1 : s = bText
  · rw [if_pos g1]; simp [g1]
  · by_cases g2 : s = bBool
    · rw [if_neg g1, if_pos g2]; simp [g2]
    · by_cases g3 : s = bInt
      · rw [if_neg g1, if_neg g2, if_pos g3]; simp [g3]
      · rw [if_neg g1, if_neg g2, if_neg g3]; simp [g1, g2, g3]
theorem leaf_word {L : List S31} {a : Int} (h : (tokP L a).f0 = 5) (hk : kwB (tokP L a).f3 = true) : leafP L a = (⟨kwK (tokP L a).f3, (tokP L a).f1, ⟨#[]⟩, ⟨#[]⟩, []⟩, a + 1, 0, 0) := by
  have hk : (tokP L a).f3 = bText ∨ (tokP L a).f3 = bBool ∨ (tokP L a).f3 = bInt := of_decide_eq_true hk
  unfold leafP
  rw [if_pos h]
  rcases hk with e | e | e
  · rw [if_neg (by rw [e]; decide), if_neg (by rw [e]; decide), if_pos e]; simp only [kwK, if_pos e]
  · rw [if_neg (by rw [e]; decide), if_pos e]; simp only [kwK, if_neg (show ¬ (tokP L a).f3 = bText by rw [e]; decide), if_pos e]
  · rw [if_pos e]; simp only [kwK, if_neg (show ¬ (tokP L a).f3 = bText by rw [e]; decide), if_neg (show ¬ (tokP L a).f3 = bBool by rw [e]; decide), if_pos e]
theorem leaf_noword {L : List S31} {a : Int} (h : (tokP L a).f0 = 5) (hk : kwB (tokP L a).f3 = false) : leafP L a = (z38, 0, (tokP L a).f1, 5) := by
  have hk : ¬ ((tokP L a).f3 = bText ∨ (tokP L a).f3 = bBool ∨ (tokP L a).f3 = bInt) := of_decide_eq_false hk
  unfold leafP
  rw [if_pos h, if_neg (fun e => hk (.inr (.inr e))), if_neg (fun e => hk (.inr (.inl e))), if_neg (fun e => hk (.inl e))]
  rfl
theorem leaf_none {L : List S31} {a : Int} (h : ¬ (tokP L a).f0 = 5) (h1 : ¬ (tokP L a).f0 = 1) : leafP L a = (z38, 0, (tokP L a).f1, 5) := by
  unfold leafP
  rw [if_neg h, if_neg h1]
  rfl
theorem leaf_name {L : List S31} {a : Int} (h : (tokP L a).f0 = 1) (hd : isP (tokP L (a + 1)) bDot = false) : leafP L a = (⟨4, (tokP L a).f1, ⟨#[]⟩, (tokP L a).f3, []⟩, a + 1, 0, 0) := by
  unfold leafP
  rw [if_neg (by rw [h]; decide), if_pos h, if_neg (by rw [hd]; decide)]
theorem leaf_dots {L : List S31} {a : Int} (h : (tokP L a).f0 = 1) (hd : isP (tokP L (a + 1)) bDot = true) (h2 : (tokP L (a + 2)).f0 = 1) : leafP L a = (⟨4, (tokP L a).f1, (tokP L a).f3, (tokP L (a + 2)).f3, []⟩, a + 2 + 1, 0, 0) := by
  rw [show a + 2 + 1 = a + 3 by omega]
  unfold leafP
  rw [if_neg (by rw [h]; decide), if_pos h, if_pos hd, if_pos h2]
theorem leaf_dotbad {L : List S31} {a : Int} (h : (tokP L a).f0 = 1) (hd : isP (tokP L (a + 1)) bDot = true) (h2 : ¬ (tokP L (a + 2)).f0 = 1) : leafP L a = (z38, 0, (tokP L (a + 2)).f1, 5) := by
  unfold leafP
  rw [if_neg (by rw [h]; decide), if_pos h, if_pos hd, if_neg h2]
  rfl
theorem tok_small {L : List S31} (hs : ∀ t ∈ L, t.f3.size ≤ 9223372036854775807) (x : Int) : (tokP L x).f3.size ≤ maxLen := by
  unfold tokP maxLen
  by_cases h : 0 ≤ x ∧ x < L.length
  · rw [if_pos h]
    unfold rd_T31
    have hx : x.toNat < L.length := by omega
    rw [List.getD_eq_getElem?_getD, List.getElem?_eq_getElem hx]
    exact hs _ (List.getElem_mem hx)
  · rw [if_neg h]
    exact Nat.zero_le _
theorem below_map3 {W w4 w5 w6 : World} {m : Nat} (hm : m = W.heap.size) (h1 : (W.alloc (.map #[] 0)).grownBy w4 (some m)) (h2 : w4.grownBy w5 (some m)) (h3 : w5.grownBy w6 (some m)) : Below W.heap.size W w6 := by
  subst hm
  have s0 : (W.alloc (.map #[] 0)).heap.size = W.heap.size + 1 := World.size_alloc _ _
  have s1 := h1.size
  have s2 := h2.size
  exact Below.grown (Below.grown (Below.grown (bel_alloc (Below.refl _ _) _) h1 (by omega) (by intro k hk; injection hk with hk; omega)) h2 (by omega) (by intro k hk; injection hk with hk; omega)) h3 (by omega) (by intro k hk; injection hk with hk; omega)
theorem ownsRow_at {W : World} {base : Nat} {v : Value} {ls : List Int} (h : W.ownsRow base 3 1 v ls.length (ints ls)) (hn : 0 < ls.length) : ∃ g cap, v = .slice (some ⟨g, 0, none⟩) ls.length cap ∧ base ≤ g ∧ g < W.heap.size := h.form hn
theorem row_cell {W : World} {base g lc : Nat} {ls : List Int} (h : W.ownsRow base 3 1 (.slice (some ⟨g, 0, none⟩) ls.length lc) ls.length (ints ls)) (i : Int) (h0 : 0 ≤ i) (h1 : i < ls.length) : W.cell? ⟨g, i.toNat, none⟩ = some (.int .i64 (ls.getD i.toNat 0)) := by
  rw [h.cellAt i.toNat (by omega)]
  unfold ints
  rw [List.getElem?_map, List.getElem?_eq_getElem (by omega), List.getD_eq_getElem?_getD, List.getElem?_eq_getElem (by omega)]
  rfl
theorem PI.put {w W : World} {v : Value} {ls : List Int} {X : Nat} {cs : Array Value} {f : Nat × Nat} (h : PI w W v ls) (hX : W.heap[X]? = some (.cells cs 38 f)) (h2 : w.heap.size + 2 ≤ X) (j : Nat) (u : Value) : PI w (W.setCell ⟨X, j, none⟩ u) v ls :=
  ⟨bel_put h.bel X j u (by omega), (blk_far _ _ _ _ _ (by omega)).trans h.r, (blk_far _ _ _ _ _ (by omega)).trans h.s, ownsRow_setCell_other h.own (own_ne h.own hX (by intros; simp)) u⟩
theorem PI.put5 {w W : World} {v : Value} {ls : List Int} {X : Nat} {u0 u1 u2 u3 u4 : Value} (h : PI w W v ls) (hX : W.heap[X]? = some (.cells #[u0, u1, u2, u3, u4] 38 (0, 0))) (h2 : w.heap.size + 2 ≤ X) (v0 v1 v2 v3 v4 : Value) :
    PI w (((((W.setCell ⟨X, 0, none⟩ v0).setCell ⟨X, 1, none⟩ v1).setCell ⟨X, 2, none⟩ v2).setCell ⟨X, 3, none⟩ v3).setCell ⟨X, 4, none⟩ v4) v ls :=
  ((((h.put hX h2 0 v0).put (blk_set hX 0 v0) h2 1 v1).put (blk_set (blk_set hX 0 v0) 1 v1) h2 2 v2).put (blk_set (blk_set (blk_set hX 0 v0) 1 v1) 2 v2) h2 3 v3).put (blk_set (blk_set (blk_set (blk_set hX 0 v0) 1 v1) 2 v2) 3 v3) h2 4 v4
/-- A round of the last loop: a list around the type. -/
theorem tail_step {w W : World} {v : Value} {ls : List Int} {X : Nat} {lv : Int} {y : S38} {yA : Option Addr} {yc : Nat} (HP : PI w W v ls) (HX : W.heap[X]? = some (.cells #[.int .i64 y.f0, .int .i64 y.f1, .string y.f2, .string y.f3, .slice yA y.f4.length yc] 38 (0, 0)))
    (h2 : w.heap.size + 2 ≤ X) (hF : y.f4.length ≤ yc ∧ Kd.F k38 W (fun k => X < k) yA y.f4.length y.f4) :
    PI w ((((((W.setCell ⟨X, 0, none⟩ (.int .i64 5)).setCell ⟨X, 1, none⟩ (.int .i64 lv)).setCell ⟨X, 2, none⟩ (.string ⟨#[]⟩)).setCell ⟨X, 3, none⟩ (.string ⟨#[]⟩)).setCell ⟨X, 4, none⟩ (.slice (some ⟨W.heap.size, 0, none⟩) 1 1)).alloc (.cells #[.int .i64 y.f0, .int .i64 y.f1, .string y.f2, .string y.f3, .slice yA y.f4.length yc] 38)).drew v ls ∧
    ((((((W.setCell ⟨X, 0, none⟩ (.int .i64 5)).setCell ⟨X, 1, none⟩ (.int .i64 lv)).setCell ⟨X, 2, none⟩ (.string ⟨#[]⟩)).setCell ⟨X, 3, none⟩ (.string ⟨#[]⟩)).setCell ⟨X, 4, none⟩ (.slice (some ⟨W.heap.size, 0, none⟩) 1 1)).alloc (.cells #[.int .i64 y.f0, .int .i64 y.f1, .string y.f2, .string y.f3, .slice yA y.f4.length yc] 38)).drew.heap[X]? = some (.cells #[.int .i64 5, .int .i64 lv, .string ⟨#[]⟩, .string ⟨#[]⟩, .slice (some ⟨W.heap.size, 0, none⟩) 1 1] 38 (0, 0)) ∧
    Kd.F k38 ((((((W.setCell ⟨X, 0, none⟩ (.int .i64 5)).setCell ⟨X, 1, none⟩ (.int .i64 lv)).setCell ⟨X, 2, none⟩ (.string ⟨#[]⟩)).setCell ⟨X, 3, none⟩ (.string ⟨#[]⟩)).setCell ⟨X, 4, none⟩ (.slice (some ⟨W.heap.size, 0, none⟩) 1 1)).alloc (.cells #[.int .i64 y.f0, .int .i64 y.f1, .string y.f2, .string y.f3, .slice yA y.f4.length yc] 38)).drew (fun k => X < k) (some ⟨W.heap.size, 0, none⟩) 1 [y] := by
  have hP := HP.put5 HX h2 (.int .i64 5) (.int .i64 lv) (.string ⟨#[]⟩) (.string ⟨#[]⟩) (.slice (some ⟨W.heap.size, 0, none⟩) 1 1)
  have hX5 := set5 (.int .i64 5) (.int .i64 lv) (.string ⟨#[]⟩) (.string ⟨#[]⟩) (.slice (some ⟨W.heap.size, 0, none⟩) 1 1) HX
  have hG := Kd.F_far (Kd.F_far (Kd.F_far (Kd.F_far (Kd.F_far hF.2 (p := ⟨X, 0, none⟩) (fun k h => by simp only; omega) (.int .i64 5)) (p := ⟨X, 1, none⟩) (fun k h => by simp only; omega) (.int .i64 lv)) (p := ⟨X, 2, none⟩) (fun k h => by simp only; omega) (.string ⟨#[]⟩)) (p := ⟨X, 3, none⟩) (fun k h => by simp only; omega) (.string ⟨#[]⟩)) (p := ⟨X, 4, none⟩) (fun k h => by simp only; omega) (.slice (some ⟨W.heap.size, 0, none⟩) 1 1)
  have hlt := blk_lt HX
  have hs : (((((W.setCell ⟨X, 0, none⟩ (.int .i64 5)).setCell ⟨X, 1, none⟩ (.int .i64 lv)).setCell ⟨X, 2, none⟩ (.string ⟨#[]⟩)).setCell ⟨X, 3, none⟩ (.string ⟨#[]⟩)).setCell ⟨X, 4, none⟩ (.slice (some ⟨W.heap.size, 0, none⟩) 1 1)).heap.size = W.heap.size := by simp
  generalize hV : (((((W.setCell ⟨X, 0, none⟩ (.int .i64 5)).setCell ⟨X, 1, none⟩ (.int .i64 lv)).setCell ⟨X, 2, none⟩ (.string ⟨#[]⟩)).setCell ⟨X, 3, none⟩ (.string ⟨#[]⟩)).setCell ⟨X, 4, none⟩ (.slice (some ⟨W.heap.size, 0, none⟩) 1 1)) = V at *
  clear hV
  refine ⟨(hP.later (bel_alloc (Below.refl _ _) _)).later (bel_drew (Below.refl _ _)), blk_alloc hX5 _, ?_⟩
  refine Kd.F_drew (F_one (x := y) hlt ?_ hF.1 (Kd.F_alloc hG _))
  rw [← hs]
  exact blk_new V _
theorem drop_nest (ls : List Int) (i : Int) (h0 : 0 ≤ i) (h1 : i < ls.length) (x : S38) : (ls.drop (i - 1 + 1).toNat).foldr nest1 x = nest1 (ls.getD i.toNat 0) ((ls.drop (i + 1).toNat).foldr nest1 x) := by
  rw [show (i - 1 + 1).toNat = i.toNat by omega, show (i + 1).toNat = i.toNat + 1 by omega, List.drop_eq_getElem_cons (by omega), List.foldr_cons, List.getD_eq_getElem?_getD, List.getElem?_eq_getElem (by omega)]
  rfl
theorem dot_in {L : List S31} {b : Int} (h : isP (tokP L (b + 1)) bDot = true) : 0 ≤ b + 1 ∧ b + 1 < L.length := by
  by_cases g : 0 ≤ b + 1 ∧ b + 1 < L.length
  · exact g
  · exfalso
    rw [show tokP L (b + 1) = ⟨0, endP L, endP L, ⟨#[]⟩⟩ from if_neg g] at h
    simp [isP] at h
/-- The token's variable is laid anew. -/
theorem put31 (t : S31) {w W : World} {v : Value} {ls : List Int} {g X : Nat} {u0 u1 u2 u3 : Value} {o : Obj} (HP : PI w W v ls) (HK : W.heap[g]? = some (.cells #[u0, u1, u2, u3] 31 (0, 0))) (h2 : w.heap.size + 2 ≤ g) (HX : W.heap[X]? = some o) (hX : X ≠ g) :
    PI w ((((W.setCell ⟨g, 0, none⟩ (.int .i64 t.f0)).setCell ⟨g, 1, none⟩ (.int .i64 t.f1)).setCell ⟨g, 2, none⟩ (.int .i64 t.f2)).setCell ⟨g, 3, none⟩ (.string t.f3)) v ls ∧
    ((((W.setCell ⟨g, 0, none⟩ (.int .i64 t.f0)).setCell ⟨g, 1, none⟩ (.int .i64 t.f1)).setCell ⟨g, 2, none⟩ (.int .i64 t.f2)).setCell ⟨g, 3, none⟩ (.string t.f3)).heap[g]? = some (.cells #[.int .i64 t.f0, .int .i64 t.f1, .int .i64 t.f2, .string t.f3] 31 (0, 0)) ∧
    ((((W.setCell ⟨g, 0, none⟩ (.int .i64 t.f0)).setCell ⟨g, 1, none⟩ (.int .i64 t.f1)).setCell ⟨g, 2, none⟩ (.int .i64 t.f2)).setCell ⟨g, 3, none⟩ (.string t.f3)).heap[X]? = some o := by
  have hn := own_ne HP.own HK (by intros; simp)
  refine ⟨⟨bel_put (bel_put (bel_put (bel_put HP.bel g 0 _ (by omega)) g 1 _ (by omega)) g 2 _ (by omega)) g 3 _ (by omega), ?_, ?_, ?_⟩, (blk_set (blk_set (blk_set (blk_set HK 0 (.int .i64 t.f0)) 1 (.int .i64 t.f1)) 2 (.int .i64 t.f2)) 3 (.string t.f3)).trans rfl, ?_⟩
  · exact (blk_far _ _ _ _ _ (by omega)).trans ((blk_far _ _ _ _ _ (by omega)).trans ((blk_far _ _ _ _ _ (by omega)).trans ((blk_far _ _ _ _ _ (by omega)).trans HP.r)))
  · exact (blk_far _ _ _ _ _ (by omega)).trans ((blk_far _ _ _ _ _ (by omega)).trans ((blk_far _ _ _ _ _ (by omega)).trans ((blk_far _ _ _ _ _ (by omega)).trans HP.s)))
  · exact ownsRow_setCell_other (ownsRow_setCell_other (ownsRow_setCell_other (ownsRow_setCell_other HP.own hn _) hn _) hn _) hn _
  · exact (blk_far _ _ _ _ _ hX).trans ((blk_far _ _ _ _ _ hX).trans ((blk_far _ _ _ _ _ hX).trans ((blk_far _ _ _ _ _ hX).trans HX)))
theorem blk_drew {W : World} {b : Nat} {o : Obj} (h : W.heap[b]? = some o) : W.drew.heap[b]? = some o := h
set_option maxRecDepth 100000 in
set_option maxHeartbeats 40000000 in
theorem parse_in (A : Option Addr) (c : Nat) (L : List S31) (hs : ∀ t ∈ L, t.f3.size ≤ 9223372036854775807) (hl : L.length ≤ 140737488351232) (hc : L.length ≤ c) (a : Int) (hn : ¬ a < 0) (hg : ¬ (L.length : Int) < a) (w : World) (hC : Kd.C k31 w A L.length L) :
    Calls Tryd.prog 24 #[.slice A L.length c, .int .i64 a] w (OutR (deepP L 30 a) w) := by
  obtain ⟨i0, hi3, hz0, hz1, hz2⟩ := info_parts info3w
  obtain ⟨z, hz⟩ : ∃ z, deepP L 30 a = z := ⟨_, rfl⟩
  rw [hz]
  have HT : Hid (∀ x, ∀ w', Below w.heap.size w w' → Calls Tryd.prog 31 #[.slice A L.length c, .int .i64 x] w' fun e w'' => e = .returned (.agg #[.int .i64 (tokP L x).f0, .int .i64 (tokP L x).f1, .int .i64 (tokP L x).f2, .string (tokP L x).f3]) ∧ Below w'.heap.size w' w'') := fun x => J_tok hl hc hC x _ rfl
  have HZ := Lib.hid hz
  have HP0 := Lib.hid (show PI w ((w.alloc box38).alloc box25) (.slice none 0 0) [] from ⟨bel_alloc (bel_alloc (Below.refl w.heap.size w) box38) box25, blk_alloc (blk_new w box38) box25, blk_new1 w box38 box25, World.ownsRow_nil _ _ _ _⟩)
  have HS := Lib.hid hs
  have HL := Lib.hid hl
  have HN := Lib.hid hn
  have HG := Lib.hid hg
  clear hC hc hl hz hs
  go_enter Tryd.func24, Tryd.ntmps24
  go_wp2_with (fail)
  refine wp_scope_straight ?_
  go_wp2_with (fail)
  refine wp_label ?_
  go_wp2_with (fail)
  clear hn hg
  go_loopg [1, 8, 9] 31 (fun kq v1 v8 v9 W => ∃ (b : Int) (ls : List Int), v1 = .int .i64 b ∧ Hid (PI w W v8 ls) ∧ Hid (kq + ls.length = 31 ∧ 1 ≤ kq ∧ 0 ≤ b ∧ b ≤ (L.length : Int) + 1 ∧ z = ls.foldr wrapR (deepP L (30 - ls.length) b)))
  case atStart => exact ⟨a, [], rfl, HP0, Lib.hid ⟨rfl, by omega, by have := HN.out; omega, by have := HG.out; omega, HZ.out.symm⟩⟩
  case round =>
    obtain ⟨b, ls, rfl, HP, HA⟩ := hrel
    go_wp2_with (fail)
    refine (HT.out b _ HP.out.bel).mono ?_
    rintro e1 w1 ⟨rfl, hb⟩
    replace HP := Lib.hid ((HP.out.later hb).later (bel_alloc (Below.refl _ _) (.cells #[.int .i64 (tokP L b).f0, .int .i64 (tokP L b).f1, .int .i64 (tokP L b).f2, .string (tokP L b).f3] 31)))
    have K := Lib.hid (blk_new w1 (.cells #[.int .i64 (tokP L b).f0, .int .i64 (tokP L b).f1, .int .i64 (tokP L b).f2, .string (tokP L b).f3] 31))
    clear hb
    have y0 := (blk_cell K.out 0).trans rfl
    have y1 := (blk_cell K.out 1).trans rfl
    have y2 := (blk_cell K.out 2).trans rfl
    have y3 := (blk_cell K.out 3).trans rfl
    go_wp2_with (fail)
    clear y0 y1 y2 y3
    obtain ⟨lA, lc, hv, hlc⟩ := own_slice HP.out.own
    subst hv
    have HLC := Lib.hid hlc
    clear hlc
    have HW := J_is (tokP L b) bOpen _ rfl
    have HV := J_is (tokP L (b + 1)) bShut _ rfl
    have HQ := Lib.hid (show isP (tokP L b) bOpen = true → 0 ≤ b ∧ b < L.length ∧ (tokP L b).f0 = 4 from open_in)
    cases ho : isP (tokP L b) bOpen with
    | false =>
      rw [ho] at HW
      have HR := Lib.hid (show z = ls.foldr wrapR (leafP L b) from by have := HA.out.2.2.2.2; rw [deep_leaf_of ho] at this; exact this)
      refine (HW.out _).mono ?_
      rintro e2 w2 ⟨rfl, hb⟩
      replace HP := Lib.hid (HP.out.later hb)
      replace K := Lib.hid (blk_later hb K.out)
      clear hb
      go_wp2_with (fail)
      refine (HT.out b _ HP.out.bel).mono ?_
      rintro e3 w3 ⟨rfl, hb⟩
      replace HP := Lib.hid (HP.out.later hb)
      replace K := Lib.hid (blk_later hb K.out)
      clear hb
      have HK3 := Lib.hid (show w.heap.size + 2 ≤ w3.heap.size from blk_lt HP.out.s)
      have HX3 := Lib.hid (show w.heap.size + 2 ≤ w3.heap.size + 1 from by have := blk_lt HP.out.s; omega)
      replace HP := Lib.hid (HP.out.later (bel_alloc (bel_alloc (Below.refl _ _) (.cells #[.int .i64 (tokP L b).f0, .int .i64 (tokP L b).f1, .int .i64 (tokP L b).f2, .string (tokP L b).f3] 31)) (.cells #[.int .i64 0, .int .i64 (tokP L b).f1, .string ⟨#[]⟩, .string ⟨#[]⟩, .slice none 0 0] 38)))
      have HK := Lib.hid (blk_alloc (blk_new w3 (.cells #[.int .i64 (tokP L b).f0, .int .i64 (tokP L b).f1, .int .i64 (tokP L b).f2, .string (tokP L b).f3] 31)) (.cells #[.int .i64 0, .int .i64 (tokP L b).f1, .string ⟨#[]⟩, .string ⟨#[]⟩, .slice none 0 0] 38))
      have HX := Lib.hid (blk_new1 w3 (.cells #[.int .i64 (tokP L b).f0, .int .i64 (tokP L b).f1, .int .i64 (tokP L b).f2, .string (tokP L b).f3] 31) (.cells #[.int .i64 0, .int .i64 (tokP L b).f1, .string ⟨#[]⟩, .string ⟨#[]⟩, .slice none 0 0] 38))
      have z0 := (blk_cell (blk_new w3 (.cells #[.int .i64 (tokP L b).f0, .int .i64 (tokP L b).f1, .int .i64 (tokP L b).f2, .string (tokP L b).f3] 31)) 0).trans rfl
      have z1 := (blk_cell (blk_new w3 (.cells #[.int .i64 (tokP L b).f0, .int .i64 (tokP L b).f1, .int .i64 (tokP L b).f2, .string (tokP L b).f3] 31)) 1).trans rfl
      have z2 := (blk_cell (blk_new w3 (.cells #[.int .i64 (tokP L b).f0, .int .i64 (tokP L b).f1, .int .i64 (tokP L b).f2, .string (tokP L b).f3] 31)) 2).trans rfl
      have z3 := (blk_cell (blk_new w3 (.cells #[.int .i64 (tokP L b).f0, .int .i64 (tokP L b).f1, .int .i64 (tokP L b).f2, .string (tokP L b).f3] 31)) 3).trans rfl
      have hmk := @run_makeMap Tryd.prog
      have q57 : Tryd.prog.underlying 57 = some (.map 9 3) := Tryd.underlying57
      have HS0 := Lib.hid (SMap.made (P := Tryd.prog) (k := 9) ((w3.alloc (.cells #[.int .i64 (tokP L b).f0, .int .i64 (tokP L b).f1, .int .i64 (tokP L b).f2, .string (tokP L b).f3] 31)).alloc (.cells #[.int .i64 0, .int .i64 (tokP L b).f1, .string ⟨#[]⟩, .string ⟨#[]⟩, .slice none 0 0] 38)))
      rw [World.size_alloc, World.size_alloc] at HS0
      have q0 : (0 : Int) ≤ b := HA.out.2.2.1
      have q1 : b ≤ 140737488351233 := by have := HA.out.2.2.2.1; have := HL.out; omega
      have HSZ := Lib.hid (tok_small HS.out b)
      have q3 : ls.length ≤ 30 := by have := HA.out.1; have := HA.out.2.1; omega
      by_cases h5 : (tokP L b).f0 = 5
      · have e5 : ((tokP L b).f0 == 5) = true := beq_iff_eq.2 h5
        cases hkb : kwB (tokP L b).f3 with
        | true =>
          have HKB := Lib.hid hkb
          have HR2 := Lib.hid (HR.out.trans (congrArg (fun r => ls.foldr wrapR r) (leaf_word h5 hkb)))
          clear hkb h5
          obtain ⟨tx, hx0⟩ : ∃ tx : S38, tx = ⟨kwK (tokP L b).f3, (tokP L b).f1, ⟨#[]⟩, ⟨#[]⟩, []⟩ := ⟨_, rfl⟩
          have HX0 := Lib.hid hx0
          clear hx0
          go_wp2_with (first | (refine wpList_insert_smap rfl _ _ _ 57 rfl 9 3 Tryd.underlying9 q57 (w3.heap.size + 1 + 1) 0 _ (by rfl) HS0.out (by simp only [maxLen]; omega) ⟨#[105, 110, 116]⟩ (by decide) (.int .i64 1) (by rfl) (by rfl) ?_; intro w4 hS1 hg1; refine wpList_insert_smap rfl _ _ _ 57 rfl 9 3 Tryd.underlying9 q57 (w3.heap.size + 1 + 1) 1 _ (by rfl) hS1 (by simp only [maxLen]; omega) ⟨#[98, 111, 111, 108]⟩ (by decide) (.int .i64 2) (by rfl) (by rfl) ?_; intro w5 hS2 hg2; refine wpList_insert_smap rfl _ _ _ 57 rfl 9 3 Tryd.underlying9 q57 (w3.heap.size + 1 + 1) 2 _ (by rfl) hS2 (by simp only [maxLen]; omega) ⟨#[116, 101, 120, 116]⟩ (by decide) (.int .i64 3) (by rfl) (by rfl) ?_; intro w6 hS3 hg3; have hb6 := below_map3 (by rw [World.size_alloc, World.size_alloc]) hg1 hg2 hg3; have HM := Lib.hid (show SMap Tryd.prog 9 w6 (w3.heap.size + 1 + 1) 3 kwF from hS3); replace HP := Lib.hid (HP.out.later hb6); replace HK := Lib.hid (blk_later hb6 HK.out); replace HX := Lib.hid (blk_later hb6 HX.out); clear hb6 hg1 hg2 hg3 hS1 hS2 hS3; have y0 := (blk_cell HK.out 0).trans rfl; have y1 := (blk_cell HK.out 1).trans rfl; have y2 := (blk_cell HK.out 2).trans rfl; have y3 := (blk_cell HK.out 3).trans rfl; have x0 := (blk_cell HX.out 0).trans rfl; have xf0 := blk_free HX.out 0; have x2 := (blk_cell HX.out 2).trans rfl; have xf2 := blk_free HX.out 2; have x3 := (blk_cell HX.out 3).trans rfl; have xf3 := blk_free HX.out 3) | (refine wpList_look_ok_smap rfl _ _ 57 rfl 9 3 Tryd.underlying9 q57 (w3.heap.size + 1 + 1) 3 _ (by rfl) HM.out (z := .int .i64 0) (by rfl) (tokP L b).f3 HSZ.out (.int .i64 (kwK (tokP L b).f3)) true (by rfl) (kw_get _) ((kw_is _).trans HKB.out) ?_))
          go_loopg [15] (ls.length + 1) (fun kq v15 W => ∃ (i : Int) (y : S38) (yA : Option Addr) (yc : Nat), v15 = .int .i64 i ∧ Hid ((kq : Int) = i + 2 ∧ -1 ≤ i ∧ i < ls.length ∧ y = (ls.drop (i + 1).toNat).foldr nest1 tx) ∧ Hid (PI w W (.slice lA ls.length lc) ls) ∧ Hid (W.heap[(w3.heap.size + 1)]? = some (.cells #[.int .i64 y.f0, .int .i64 y.f1, .string y.f2, .string y.f3, .slice yA y.f4.length yc] 38 (0, 0))) ∧ Hid (y.f4.length ≤ yc ∧ Kd.F k38 W (fun k => (w3.heap.size + 1) < k) yA y.f4.length y.f4))
          case atStart => exact ⟨_, tx, none, 0, rfl, Lib.hid ⟨by omega, by omega, by omega, by rw [show ((ls.length : Int) - 1 + 1).toNat = ls.length by omega, List.drop_length]; rfl⟩, Lib.hid (HP.out.put HX.out HX3.out 0 _), Lib.hid (HX0.out ▸ blk_set HX.out 0 _), Lib.hid ⟨by rw [HX0.out]; exact Nat.le_refl 0, by rw [HX0.out]; exact F_nil' _ _ _⟩⟩
          case round =>
            obtain ⟨i, y, yA, yc, rfl, HA, HP, HX, HF⟩ := hrel
            by_cases hi : 0 ≤ i
            · have hx := HP.out.own
              have hlt := HA.out.2.2.1
              obtain ⟨g, cap, hv, hg0, hg1⟩ := ownsRow_at hx (by omega)
              injection hv with hv1 _ hv2
              subst hv1
              have l0 := row_cell hx i hi hlt
              obtain ⟨lv, hlv⟩ : ∃ lv, ls.getD i.toNat 0 = lv := ⟨_, rfl⟩
              rw [hlv] at l0
              have HLV := Lib.hid hlv
              clear hlv
              have hX1 := blk_lt HX.out
              have x0 := (blk_cell HX.out 0).trans rfl
              have x1 := (blk_cell HX.out 1).trans rfl
              have x2 := (blk_cell HX.out 2).trans rfl
              have x3 := (blk_cell HX.out 3).trans rfl
              have x4 := (blk_cell HX.out 4).trans rfl
              have f0 := blk_free HX.out 0
              have f1 := blk_free HX.out 1
              have f2 := blk_free HX.out 2
              have f3 := blk_free HX.out 3
              have f4 := blk_free HX.out 4
              clear hx hv2
              go_wp2_with (fail)
              go_region
              go_wp2_with (fail)
              go_roundg (gk - 1)
              case measure => have := HA.out.1; omega
              case rel =>
                obtain ⟨t1, t2, t3⟩ := tail_step (lv := lv) HP.out HX.out HX3.out HF.out
                have a1 := HA.out.1
                have a2 := HA.out.2.1
                have a4 := HA.out.2.2.2
                exact ⟨i - 1, nest1 lv y, _, 1, rfl, Lib.hid ⟨by omega, by omega, by omega, by rw [drop_nest ls i hi hlt, HLV.out, ← a4]⟩, Lib.hid t1, Lib.hid t2, Lib.hid ⟨Nat.le_refl 1, t3⟩⟩
            · have hi1 : i = -1 := by have := HA.out.2.1; omega
              have x0 := (blk_cell HX.out 0).trans rfl
              have x1 := (blk_cell HX.out 1).trans rfl
              have x2 := (blk_cell HX.out 2).trans rfl
              have x3 := (blk_cell HX.out 3).trans rfl
              have x4 := (blk_cell HX.out 4).trans rfl
              have HB := Lib.hid HP.out.bel
              have R := Lib.hid HP.out.r
              have S := Lib.hid HP.out.s
              have HI := Lib.hid hi1
              clear hi1
              have R1 := R.out
              have S1 := S.out
              have r0 := (blk_cell R1 0).trans rfl
              have r1 := (blk_cell R1 1).trans rfl
              have r2 := (blk_cell R1 2).trans rfl
              have r3 := (blk_cell R1 3).trans rfl
              have r4 := (blk_cell R1 4).trans rfl
              have f0 := blk_free R1 0
              have f1 := blk_free R1 1
              have f2 := blk_free R1 2
              have f3 := blk_free R1 3
              have f4 := blk_free R1 4
              have s0 := (blk_cell S1 0).trans rfl
              have s1 := (blk_cell S1 1).trans rfl
              have g0 := blk_free S1 0
              have g1 := blk_free S1 1
              clear R1 S1
              go_wp2_with (fail)
              obtain rfl : i = -1 := HI.out
              rw [HR2.out, wraps_ok]
              have hy := HA.out.2.2.2
              rw [show (((-1 : Int) + 1).toNat) = 0 from rfl, List.drop_zero] at hy
              rw [← HX0.out, ← hy]
              exact out_end rfl R.out S.out HB.out rfl rfl rfl rfl HF.out.1 (Kd.F_mono HF.out.2 (fun k hk => by have := HX3.out; omega)) _ (by cases y; rfl)
        | false =>
          have HKB := Lib.hid hkb
          have e1 : ((tokP L b).f0 == 1) = false := beq_eq_false_iff_ne.2 (by omega)
          have HR2 := Lib.hid (show z = (z38, 0, (tokP L b).f1, 5) from HR.out.trans ((congrArg (fun r => ls.foldr wrapR r) (leaf_noword h5 hkb)).trans (wraps_fail _ _ (by decide) ls)))
          clear hkb h5
          have HF := J_fail (tokP L b) 5
          go_wp2_with (first | (refine wpList_insert_smap rfl _ _ _ 57 rfl 9 3 Tryd.underlying9 q57 (w3.heap.size + 1 + 1) 0 _ (by rfl) HS0.out (by simp only [maxLen]; omega) ⟨#[105, 110, 116]⟩ (by decide) (.int .i64 1) (by rfl) (by rfl) ?_; intro w4 hS1 hg1; refine wpList_insert_smap rfl _ _ _ 57 rfl 9 3 Tryd.underlying9 q57 (w3.heap.size + 1 + 1) 1 _ (by rfl) hS1 (by simp only [maxLen]; omega) ⟨#[98, 111, 111, 108]⟩ (by decide) (.int .i64 2) (by rfl) (by rfl) ?_; intro w5 hS2 hg2; refine wpList_insert_smap rfl _ _ _ 57 rfl 9 3 Tryd.underlying9 q57 (w3.heap.size + 1 + 1) 2 _ (by rfl) hS2 (by simp only [maxLen]; omega) ⟨#[116, 101, 120, 116]⟩ (by decide) (.int .i64 3) (by rfl) (by rfl) ?_; intro w6 hS3 hg3; have hb6 := below_map3 (by rw [World.size_alloc, World.size_alloc]) hg1 hg2 hg3; have HM := Lib.hid (show SMap Tryd.prog 9 w6 (w3.heap.size + 1 + 1) 3 kwF from hS3); replace HP := Lib.hid (HP.out.later hb6); replace HK := Lib.hid (blk_later hb6 HK.out); replace HX := Lib.hid (blk_later hb6 HX.out); clear hb6 hg1 hg2 hg3 hS1 hS2 hS3; have y0 := (blk_cell HK.out 0).trans rfl; have y1 := (blk_cell HK.out 1).trans rfl; have y2 := (blk_cell HK.out 2).trans rfl; have y3 := (blk_cell HK.out 3).trans rfl; have x0 := (blk_cell HX.out 0).trans rfl; have xf0 := blk_free HX.out 0; have x2 := (blk_cell HX.out 2).trans rfl; have xf2 := blk_free HX.out 2; have x3 := (blk_cell HX.out 3).trans rfl; have xf3 := blk_free HX.out 3) | (refine wpList_look_ok_smap rfl _ _ 57 rfl 9 3 Tryd.underlying9 q57 (w3.heap.size + 1 + 1) 3 _ (by rfl) HM.out (z := .int .i64 0) (by rfl) (tokP L b).f3 HSZ.out (.int .i64 (kwK (tokP L b).f3)) false (by rfl) (kw_get _) ((kw_is _).trans HKB.out) ?_))
          go_wp2_with ((go_at_call 30; refine (HF.out _).mono ?_; rintro e7 w7 ⟨A', m', rfl, hb⟩; replace HP := Lib.hid (HP.out.later hb); replace HK := Lib.hid (blk_later hb HK.out); replace HX := Lib.hid (blk_later hb HX.out); clear hb; have HB := Lib.hid HP.out.bel; have R := Lib.hid HP.out.r; have S := Lib.hid HP.out.s; have R1 := R.out; have S1 := S.out; have r0 := (blk_cell R1 0).trans rfl; have r1 := (blk_cell R1 1).trans rfl; have r2 := (blk_cell R1 2).trans rfl; have r3 := (blk_cell R1 3).trans rfl; have r4 := (blk_cell R1 4).trans rfl; have f0 := blk_free R1 0; have f1 := blk_free R1 1; have f2 := blk_free R1 2; have f3 := blk_free R1 3; have f4 := blk_free R1 4; have s0 := (blk_cell S1 0).trans rfl; have s1 := (blk_cell S1 1).trans rfl; have g0 := blk_free S1 0; have g1 := blk_free S1 1; clear R1 S1))
          rw [HR2.out]
          exact out_end rfl R.out S.out HB.out rfl rfl rfl rfl (Nat.zero_le _) (F_nil' _ _ _) _ rfl
      · have e5 : ((tokP L b).f0 == 5) = false := beq_eq_false_iff_ne.2 h5
        obtain ⟨kb, hkb⟩ : ∃ kb, kwB (tokP L b).f3 = kb := ⟨_, rfl⟩
        have HKB := Lib.hid hkb
        clear hkb
        by_cases h1 : (tokP L b).f0 = 1
        · have e1 : ((tokP L b).f0 == 1) = true := beq_iff_eq.2 h1
          have H1 := Lib.hid h1
          clear h1
          go_wp2_with (first | (refine wpList_insert_smap rfl _ _ _ 57 rfl 9 3 Tryd.underlying9 q57 (w3.heap.size + 1 + 1) 0 _ (by rfl) HS0.out (by simp only [maxLen]; omega) ⟨#[105, 110, 116]⟩ (by decide) (.int .i64 1) (by rfl) (by rfl) ?_; intro w4 hS1 hg1; refine wpList_insert_smap rfl _ _ _ 57 rfl 9 3 Tryd.underlying9 q57 (w3.heap.size + 1 + 1) 1 _ (by rfl) hS1 (by simp only [maxLen]; omega) ⟨#[98, 111, 111, 108]⟩ (by decide) (.int .i64 2) (by rfl) (by rfl) ?_; intro w5 hS2 hg2; refine wpList_insert_smap rfl _ _ _ 57 rfl 9 3 Tryd.underlying9 q57 (w3.heap.size + 1 + 1) 2 _ (by rfl) hS2 (by simp only [maxLen]; omega) ⟨#[116, 101, 120, 116]⟩ (by decide) (.int .i64 3) (by rfl) (by rfl) ?_; intro w6 hS3 hg3; have hb6 := below_map3 (by rw [World.size_alloc, World.size_alloc]) hg1 hg2 hg3; have HM := Lib.hid (show SMap Tryd.prog 9 w6 (w3.heap.size + 1 + 1) 3 kwF from hS3); replace HP := Lib.hid (HP.out.later hb6); replace HK := Lib.hid (blk_later hb6 HK.out); replace HX := Lib.hid (blk_later hb6 HX.out); clear hb6 hg1 hg2 hg3 hS1 hS2 hS3; have y0 := (blk_cell HK.out 0).trans rfl; have y1 := (blk_cell HK.out 1).trans rfl; have y2 := (blk_cell HK.out 2).trans rfl; have y3 := (blk_cell HK.out 3).trans rfl; have x0 := (blk_cell HX.out 0).trans rfl; have xf0 := blk_free HX.out 0; have x2 := (blk_cell HX.out 2).trans rfl; have xf2 := blk_free HX.out 2; have x3 := (blk_cell HX.out 3).trans rfl; have xf3 := blk_free HX.out 3) | (refine wpList_look_ok_smap rfl _ _ 57 rfl 9 3 Tryd.underlying9 q57 (w3.heap.size + 1 + 1) 3 _ (by rfl) HM.out (z := .int .i64 0) (by rfl) (tokP L b).f3 HSZ.out (.int .i64 (kwK (tokP L b).f3)) kb (by rfl) (kw_get _) ((kw_is _).trans HKB.out) ?_))
          go_region
          replace HP := Lib.hid (((HP.out.put HX.out HX3.out 0 (.int .i64 4)).put (blk_set HX.out 0 (.int .i64 4)) HX3.out 3 (.string (tokP L b).f3)).later (bel_drew (Below.refl _ _)))
          have hkx : w3.heap.size ≠ w3.heap.size + 1 := by omega
          replace HK := Lib.hid (show (((w6.setCell ⟨w3.heap.size + 1, 0, none⟩ (.int .i64 4)).setCell ⟨w3.heap.size + 1, 3, none⟩ (.string (tokP L b).f3)).drew).heap[w3.heap.size]? = some (.cells #[.int .i64 (tokP L b).f0, .int .i64 (tokP L b).f1, .int .i64 (tokP L b).f2, .string (tokP L b).f3] 31) from (blk_far _ _ _ _ _ hkx).trans ((blk_far _ _ _ _ _ hkx).trans HK.out))
          replace HX := Lib.hid (show (((w6.setCell ⟨w3.heap.size + 1, 0, none⟩ (.int .i64 4)).setCell ⟨w3.heap.size + 1, 3, none⟩ (.string (tokP L b).f3)).drew).heap[w3.heap.size + 1]? = some (.cells #[.int .i64 4, .int .i64 (tokP L b).f1, .string ⟨#[]⟩, .string (tokP L b).f3, .slice none 0 0] 38 (0, 0)) from (blk_set (blk_set HX.out 0 (.int .i64 4)) 3 (.string (tokP L b).f3)).trans rfl)
          clear hkx y0 y1 y2 y3 x0 x2 x3 xf0 xf2 xf3
          have HD := J_is (tokP L (b + 1)) bDot _ rfl
          go_wp2_with (fail)
          refine (HT.out (b + 1) _ HP.out.bel).mono ?_
          rintro e7 w7 ⟨rfl, hb⟩
          replace HP := Lib.hid (HP.out.later hb)
          replace HK := Lib.hid (blk_later hb HK.out)
          replace HX := Lib.hid (blk_later hb HX.out)
          clear hb
          go_wp2_with (fail)
          cases hd : isP (tokP L (b + 1)) bDot with
          | false =>
            rw [hd] at HD
            have HR2 := Lib.hid (HR.out.trans (congrArg (fun r => ls.foldr wrapR r) (leaf_name H1.out hd)))
            clear hd
            obtain ⟨tx, hx0⟩ : ∃ tx : S38, tx = ⟨4, (tokP L b).f1, ⟨#[]⟩, (tokP L b).f3, []⟩ := ⟨_, rfl⟩
            have HX0 := Lib.hid hx0
            clear hx0
            refine (HD.out _).mono ?_
            rintro e8 w8 ⟨rfl, hb⟩
            replace HP := Lib.hid (HP.out.later hb)
            replace HK := Lib.hid (blk_later hb HK.out)
            replace HX := Lib.hid (blk_later hb HX.out)
            clear hb
            go_wp2_with (fail)
            go_loopg [15] (ls.length + 1) (fun kq v15 W => ∃ (i : Int) (y : S38) (yA : Option Addr) (yc : Nat), v15 = .int .i64 i ∧ Hid ((kq : Int) = i + 2 ∧ -1 ≤ i ∧ i < ls.length ∧ y = (ls.drop (i + 1).toNat).foldr nest1 tx) ∧ Hid (PI w W (.slice lA ls.length lc) ls) ∧ Hid (W.heap[(w3.heap.size + 1)]? = some (.cells #[.int .i64 y.f0, .int .i64 y.f1, .string y.f2, .string y.f3, .slice yA y.f4.length yc] 38 (0, 0))) ∧ Hid (y.f4.length ≤ yc ∧ Kd.F k38 W (fun k => (w3.heap.size + 1) < k) yA y.f4.length y.f4))
            case atStart => exact ⟨_, tx, none, 0, rfl, Lib.hid ⟨by omega, by omega, by omega, by rw [show ((ls.length : Int) - 1 + 1).toNat = ls.length by omega, List.drop_length]; rfl⟩, HP, (HX0.out ▸ HX), Lib.hid ⟨by rw [HX0.out]; exact Nat.le_refl 0, by rw [HX0.out]; exact F_nil' _ _ _⟩⟩
            case round =>
              obtain ⟨i, y, yA, yc, rfl, HA, HP, HX, HF⟩ := hrel
              by_cases hi : 0 ≤ i
              · have hx := HP.out.own
                have hlt := HA.out.2.2.1
                obtain ⟨g, cap, hv, hg0, hg1⟩ := ownsRow_at hx (by omega)
                injection hv with hv1 _ hv2
                subst hv1
                have l0 := row_cell hx i hi hlt
                obtain ⟨lv, hlv⟩ : ∃ lv, ls.getD i.toNat 0 = lv := ⟨_, rfl⟩
                rw [hlv] at l0
                have HLV := Lib.hid hlv
                clear hlv
                have hX1 := blk_lt HX.out
                have x0 := (blk_cell HX.out 0).trans rfl
                have x1 := (blk_cell HX.out 1).trans rfl
                have x2 := (blk_cell HX.out 2).trans rfl
                have x3 := (blk_cell HX.out 3).trans rfl
                have x4 := (blk_cell HX.out 4).trans rfl
                have f0 := blk_free HX.out 0
                have f1 := blk_free HX.out 1
                have f2 := blk_free HX.out 2
                have f3 := blk_free HX.out 3
                have f4 := blk_free HX.out 4
                clear hx hv2
                go_wp2_with (fail)
                go_region
                go_wp2_with (fail)
                go_roundg (gk - 1)
                case measure => have := HA.out.1; omega
                case rel =>
                  obtain ⟨t1, t2, t3⟩ := tail_step (lv := lv) HP.out HX.out HX3.out HF.out
                  have a1 := HA.out.1
                  have a2 := HA.out.2.1
                  have a4 := HA.out.2.2.2
                  exact ⟨i - 1, nest1 lv y, _, 1, rfl, Lib.hid ⟨by omega, by omega, by omega, by rw [drop_nest ls i hi hlt, HLV.out, ← a4]⟩, Lib.hid t1, Lib.hid t2, Lib.hid ⟨Nat.le_refl 1, t3⟩⟩
              · have hi1 : i = -1 := by have := HA.out.2.1; omega
                have x0 := (blk_cell HX.out 0).trans rfl
                have x1 := (blk_cell HX.out 1).trans rfl
                have x2 := (blk_cell HX.out 2).trans rfl
                have x3 := (blk_cell HX.out 3).trans rfl
                have x4 := (blk_cell HX.out 4).trans rfl
                have HB := Lib.hid HP.out.bel
                have R := Lib.hid HP.out.r
                have S := Lib.hid HP.out.s
                have HI := Lib.hid hi1
                clear hi1
                have R1 := R.out
                have S1 := S.out
                have r0 := (blk_cell R1 0).trans rfl
                have r1 := (blk_cell R1 1).trans rfl
                have r2 := (blk_cell R1 2).trans rfl
                have r3 := (blk_cell R1 3).trans rfl
                have r4 := (blk_cell R1 4).trans rfl
                have f0 := blk_free R1 0
                have f1 := blk_free R1 1
                have f2 := blk_free R1 2
                have f3 := blk_free R1 3
                have f4 := blk_free R1 4
                have s0 := (blk_cell S1 0).trans rfl
                have s1 := (blk_cell S1 1).trans rfl
                have g0 := blk_free S1 0
                have g1 := blk_free S1 1
                clear R1 S1
                go_wp2_with (fail)
                obtain rfl : i = -1 := HI.out
                rw [HR2.out, wraps_ok]
                have hy := HA.out.2.2.2
                rw [show (((-1 : Int) + 1).toNat) = 0 from rfl, List.drop_zero] at hy
                rw [← HX0.out, ← hy]
                exact out_end rfl R.out S.out HB.out rfl rfl rfl rfl HF.out.1 (Kd.F_mono HF.out.2 (fun k hk => by have := HX3.out; omega)) _ (by cases y; rfl)
          | true =>
            rw [hd] at HD
            have HDD := Lib.hid hd
            have q2 : b ≤ 140737488351231 := by have := dot_in hd; have := HL.out; omega
            clear hd
            refine (HD.out _).mono ?_
            rintro e8 w8 ⟨rfl, hb⟩
            replace HP := Lib.hid (HP.out.later hb)
            replace HK := Lib.hid (blk_later hb HK.out)
            replace HX := Lib.hid (blk_later hb HX.out)
            clear hb
            go_wp2_with (fail)
            refine (HT.out (b + 2) _ HP.out.bel).mono ?_
            rintro e9 w9 ⟨rfl, hb⟩
            replace HP := Lib.hid (HP.out.later hb)
            replace HK := Lib.hid (blk_later hb HK.out)
            replace HX := Lib.hid (blk_later hb HX.out)
            clear hb
            have y0 := (blk_cell HK.out 0).trans rfl
            have y1 := (blk_cell HK.out 1).trans rfl
            have y2 := (blk_cell HK.out 2).trans rfl
            have y3 := (blk_cell HK.out 3).trans rfl
            have yf0 := blk_free HK.out 0
            have yf1 := blk_free HK.out 1
            have yf2 := blk_free HK.out 2
            have yf3 := blk_free HK.out 3
            have g4 := put31 (tokP L (b + 2)) HP.out HK.out HK3.out HX.out (by omega)
            have HP4 := Lib.hid g4.1
            have HK4 := Lib.hid g4.2.1
            have HX4 := Lib.hid g4.2.2
            clear g4
            have x2 := (blk_cell HX4.out 2).trans rfl
            have x3 := (blk_cell HX4.out 3).trans rfl
            have xf2 := blk_free HX4.out 2
            have xf3 := blk_free HX4.out 3
            by_cases h2 : (tokP L (b + 2)).f0 = 1
            · have e2 : ((tokP L (b + 2)).f0 == 1) = true := beq_iff_eq.2 h2
              have e3 : ((tokP L (b + 2)).f0 != 1) = false := by rw [h2]; rfl
              have HR2 := Lib.hid (HR.out.trans (congrArg (fun r => ls.foldr wrapR r) (leaf_dots H1.out HDD.out h2)))
              clear h2
              go_wp2_with (fail)
              clear y0 y1 y2 y3
              have y3 := (blk_cell HK4.out 3).trans rfl
              go_region
              obtain ⟨tx, hx0⟩ : ∃ tx : S38, tx = ⟨4, (tokP L b).f1, (tokP L b).f3, (tokP L (b + 2)).f3, []⟩ := ⟨_, rfl⟩
              have HX0 := Lib.hid hx0
              clear hx0
              go_wp2_with (fail)
              go_loopg [15] (ls.length + 1) (fun kq v15 W => ∃ (i : Int) (y : S38) (yA : Option Addr) (yc : Nat), v15 = .int .i64 i ∧ Hid ((kq : Int) = i + 2 ∧ -1 ≤ i ∧ i < ls.length ∧ y = (ls.drop (i + 1).toNat).foldr nest1 tx) ∧ Hid (PI w W (.slice lA ls.length lc) ls) ∧ Hid (W.heap[(w3.heap.size + 1)]? = some (.cells #[.int .i64 y.f0, .int .i64 y.f1, .string y.f2, .string y.f3, .slice yA y.f4.length yc] 38 (0, 0))) ∧ Hid (y.f4.length ≤ yc ∧ Kd.F k38 W (fun k => (w3.heap.size + 1) < k) yA y.f4.length y.f4))
              case atStart => exact ⟨_, tx, none, 0, rfl, Lib.hid ⟨by omega, by omega, by omega, by rw [show ((ls.length : Int) - 1 + 1).toNat = ls.length by omega, List.drop_length]; rfl⟩, Lib.hid (((HP4.out.put HX4.out HX3.out 2 _).put (blk_set HX4.out 2 _) HX3.out 3 _).later (bel_drew (Below.refl _ _))), Lib.hid (by rw [HX0.out]; exact blk_drew (blk_set (blk_set HX4.out 2 (.string (tokP L b).f3)) 3 (.string (tokP L (b + 2)).f3))), Lib.hid ⟨by rw [HX0.out]; exact Nat.le_refl 0, by rw [HX0.out]; exact F_nil' _ _ _⟩⟩
              case round =>
                obtain ⟨i, y, yA, yc, rfl, HA, HP, HX, HF⟩ := hrel
                by_cases hi : 0 ≤ i
                · have hx := HP.out.own
                  have hlt := HA.out.2.2.1
                  obtain ⟨g, cap, hv, hg0, hg1⟩ := ownsRow_at hx (by omega)
                  injection hv with hv1 _ hv2
                  subst hv1
                  have l0 := row_cell hx i hi hlt
                  obtain ⟨lv, hlv⟩ : ∃ lv, ls.getD i.toNat 0 = lv := ⟨_, rfl⟩
                  rw [hlv] at l0
                  have HLV := Lib.hid hlv
                  clear hlv
                  have hX1 := blk_lt HX.out
                  have x0 := (blk_cell HX.out 0).trans rfl
                  have x1 := (blk_cell HX.out 1).trans rfl
                  have x2 := (blk_cell HX.out 2).trans rfl
                  have x3 := (blk_cell HX.out 3).trans rfl
                  have x4 := (blk_cell HX.out 4).trans rfl
                  have f0 := blk_free HX.out 0
                  have f1 := blk_free HX.out 1
                  have f2 := blk_free HX.out 2
                  have f3 := blk_free HX.out 3
                  have f4 := blk_free HX.out 4
                  clear hx hv2
                  go_wp2_with (fail)
                  go_region
                  go_wp2_with (fail)
                  go_roundg (gk - 1)
                  case measure => have := HA.out.1; omega
                  case rel =>
                    obtain ⟨t1, t2, t3⟩ := tail_step (lv := lv) HP.out HX.out HX3.out HF.out
                    have a1 := HA.out.1
                    have a2 := HA.out.2.1
                    have a4 := HA.out.2.2.2
                    exact ⟨i - 1, nest1 lv y, _, 1, rfl, Lib.hid ⟨by omega, by omega, by omega, by rw [drop_nest ls i hi hlt, HLV.out, ← a4]⟩, Lib.hid t1, Lib.hid t2, Lib.hid ⟨Nat.le_refl 1, t3⟩⟩
                · have hi1 : i = -1 := by have := HA.out.2.1; omega
                  have x0 := (blk_cell HX.out 0).trans rfl
                  have x1 := (blk_cell HX.out 1).trans rfl
                  have x2 := (blk_cell HX.out 2).trans rfl
                  have x3 := (blk_cell HX.out 3).trans rfl
                  have x4 := (blk_cell HX.out 4).trans rfl
                  have HB := Lib.hid HP.out.bel
                  have R := Lib.hid HP.out.r
                  have S := Lib.hid HP.out.s
                  have HI := Lib.hid hi1
                  clear hi1
                  have R1 := R.out
                  have S1 := S.out
                  have r0 := (blk_cell R1 0).trans rfl
                  have r1 := (blk_cell R1 1).trans rfl
                  have r2 := (blk_cell R1 2).trans rfl
                  have r3 := (blk_cell R1 3).trans rfl
                  have r4 := (blk_cell R1 4).trans rfl
                  have f0 := blk_free R1 0
                  have f1 := blk_free R1 1
                  have f2 := blk_free R1 2
                  have f3 := blk_free R1 3
                  have f4 := blk_free R1 4
                  have s0 := (blk_cell S1 0).trans rfl
                  have s1 := (blk_cell S1 1).trans rfl
                  have g0 := blk_free S1 0
                  have g1 := blk_free S1 1
                  clear R1 S1
                  go_wp2_with (fail)
                  obtain rfl : i = -1 := HI.out
                  rw [HR2.out, wraps_ok]
                  have hy := HA.out.2.2.2
                  rw [show (((-1 : Int) + 1).toNat) = 0 from rfl, List.drop_zero] at hy
                  rw [← HX0.out, ← hy]
                  exact out_end rfl R.out S.out HB.out rfl rfl rfl rfl HF.out.1 (Kd.F_mono HF.out.2 (fun k hk => by have := HX3.out; omega)) _ (by cases y; rfl)
            · have e2 : ((tokP L (b + 2)).f0 == 1) = false := beq_eq_false_iff_ne.2 h2
              have e3 : ((tokP L (b + 2)).f0 != 1) = true := by simp [bne, e2]
              have HR2 := Lib.hid (show z = (z38, 0, (tokP L (b + 2)).f1, 5) from HR.out.trans ((congrArg (fun r => ls.foldr wrapR r) (leaf_dotbad H1.out HDD.out h2)).trans (wraps_fail _ _ (by decide) ls)))
              clear h2
              have HF := J_fail (tokP L (b + 2)) 5
              replace HP := HP4
              replace HK := HK4
              replace HX := HX4
              clear HP4 HK4 HX4
              go_wp2_with ((go_at_call 30; refine (HF.out _).mono ?_; rintro e10 w10 ⟨A', m', rfl, hb⟩; replace HP := Lib.hid (HP.out.later hb); replace HK := Lib.hid (blk_later hb HK.out); replace HX := Lib.hid (blk_later hb HX.out); clear hb; have HB := Lib.hid HP.out.bel; have R := Lib.hid HP.out.r; have S := Lib.hid HP.out.s; have R1 := R.out; have S1 := S.out; have r0 := (blk_cell R1 0).trans rfl; have r1 := (blk_cell R1 1).trans rfl; have r2 := (blk_cell R1 2).trans rfl; have r3 := (blk_cell R1 3).trans rfl; have r4 := (blk_cell R1 4).trans rfl; have f0 := blk_free R1 0; have f1 := blk_free R1 1; have f2 := blk_free R1 2; have f3 := blk_free R1 3; have f4 := blk_free R1 4; have s0 := (blk_cell S1 0).trans rfl; have s1 := (blk_cell S1 1).trans rfl; have g0 := blk_free S1 0; have g1 := blk_free S1 1; clear R1 S1))
              rw [HR2.out]
              exact out_end rfl R.out S.out HB.out rfl rfl rfl rfl (Nat.zero_le _) (F_nil' _ _ _) _ rfl
        · have e1 : ((tokP L b).f0 == 1) = false := beq_eq_false_iff_ne.2 h1
          have HR2 := Lib.hid (show z = (z38, 0, (tokP L b).f1, 5) from HR.out.trans ((congrArg (fun r => ls.foldr wrapR r) (leaf_none h5 h1)).trans (wraps_fail _ _ (by decide) ls)))
          clear h1 h5
          have HF := J_fail (tokP L b) 5
          go_wp2_with (first | (refine wpList_insert_smap rfl _ _ _ 57 rfl 9 3 Tryd.underlying9 q57 (w3.heap.size + 1 + 1) 0 _ (by rfl) HS0.out (by simp only [maxLen]; omega) ⟨#[105, 110, 116]⟩ (by decide) (.int .i64 1) (by rfl) (by rfl) ?_; intro w4 hS1 hg1; refine wpList_insert_smap rfl _ _ _ 57 rfl 9 3 Tryd.underlying9 q57 (w3.heap.size + 1 + 1) 1 _ (by rfl) hS1 (by simp only [maxLen]; omega) ⟨#[98, 111, 111, 108]⟩ (by decide) (.int .i64 2) (by rfl) (by rfl) ?_; intro w5 hS2 hg2; refine wpList_insert_smap rfl _ _ _ 57 rfl 9 3 Tryd.underlying9 q57 (w3.heap.size + 1 + 1) 2 _ (by rfl) hS2 (by simp only [maxLen]; omega) ⟨#[116, 101, 120, 116]⟩ (by decide) (.int .i64 3) (by rfl) (by rfl) ?_; intro w6 hS3 hg3; have hb6 := below_map3 (by rw [World.size_alloc, World.size_alloc]) hg1 hg2 hg3; have HM := Lib.hid (show SMap Tryd.prog 9 w6 (w3.heap.size + 1 + 1) 3 kwF from hS3); replace HP := Lib.hid (HP.out.later hb6); replace HK := Lib.hid (blk_later hb6 HK.out); replace HX := Lib.hid (blk_later hb6 HX.out); clear hb6 hg1 hg2 hg3 hS1 hS2 hS3; have y0 := (blk_cell HK.out 0).trans rfl; have y1 := (blk_cell HK.out 1).trans rfl; have y2 := (blk_cell HK.out 2).trans rfl; have y3 := (blk_cell HK.out 3).trans rfl; have x0 := (blk_cell HX.out 0).trans rfl; have xf0 := blk_free HX.out 0; have x2 := (blk_cell HX.out 2).trans rfl; have xf2 := blk_free HX.out 2; have x3 := (blk_cell HX.out 3).trans rfl; have xf3 := blk_free HX.out 3) | (refine wpList_look_ok_smap rfl _ _ 57 rfl 9 3 Tryd.underlying9 q57 (w3.heap.size + 1 + 1) 3 _ (by rfl) HM.out (z := .int .i64 0) (by rfl) (tokP L b).f3 HSZ.out (.int .i64 (kwK (tokP L b).f3)) kb (by rfl) (kw_get _) ((kw_is _).trans HKB.out) ?_))
          go_wp2_with ((go_at_call 30; refine (HF.out _).mono ?_; rintro e7 w7 ⟨A', m', rfl, hb⟩; replace HP := Lib.hid (HP.out.later hb); replace HK := Lib.hid (blk_later hb HK.out); replace HX := Lib.hid (blk_later hb HX.out); clear hb; have HB := Lib.hid HP.out.bel; have R := Lib.hid HP.out.r; have S := Lib.hid HP.out.s; have R1 := R.out; have S1 := S.out; have r0 := (blk_cell R1 0).trans rfl; have r1 := (blk_cell R1 1).trans rfl; have r2 := (blk_cell R1 2).trans rfl; have r3 := (blk_cell R1 3).trans rfl; have r4 := (blk_cell R1 4).trans rfl; have f0 := blk_free R1 0; have f1 := blk_free R1 1; have f2 := blk_free R1 2; have f3 := blk_free R1 3; have f4 := blk_free R1 4; have s0 := (blk_cell S1 0).trans rfl; have s1 := (blk_cell S1 1).trans rfl; have g0 := blk_free S1 0; have g1 := blk_free S1 1; clear R1 S1))
          rw [HR2.out]
          exact out_end rfl R.out S.out HB.out rfl rfl rfl rfl (Nat.zero_le _) (F_nil' _ _ _) _ rfl
    | true =>
      rw [ho] at HW
      by_cases h30 : ls.length = 30
      · have e30 : ((ls.length : Int) == 30) = true := by rw [h30]; rfl
        have HF := J_fail (tokP L b) 6
        have HR := Lib.hid (show z = (z38, 0, (tokP L b).f1, 6) from by have := HA.out.2.2.2.2; rw [h30, deep_zero_of ho] at this; rw [this]; exact wraps_fail _ _ (by decide) ls)
        refine (HW.out _).mono ?_
        rintro e2 w2 ⟨rfl, hb⟩
        replace HP := Lib.hid (HP.out.later hb)
        replace K := Lib.hid (blk_later hb K.out)
        clear hb
        have y0 := (blk_cell K.out 0).trans rfl
        have y1 := (blk_cell K.out 1).trans rfl
        have y2 := (blk_cell K.out 2).trans rfl
        have y3 := (blk_cell K.out 3).trans rfl
        go_wp2_with (first | (go_at_call 30; refine (HF.out _).mono ?_; rintro e3 w3 ⟨A', m', rfl, hb⟩; replace HP := Lib.hid (HP.out.later hb); replace K := Lib.hid (blk_later hb K.out); clear hb; have HB := Lib.hid HP.out.bel; have R := Lib.hid HP.out.r; have S := Lib.hid HP.out.s; have R1 := R.out; have S1 := S.out; have r0 := (blk_cell R1 0).trans rfl; have r1 := (blk_cell R1 1).trans rfl; have r2 := (blk_cell R1 2).trans rfl; have r3 := (blk_cell R1 3).trans rfl; have r4 := (blk_cell R1 4).trans rfl; have f0 := blk_free R1 0; have f1 := blk_free R1 1; have f2 := blk_free R1 2; have f3 := blk_free R1 3; have f4 := blk_free R1 4; have s0 := (blk_cell S1 0).trans rfl; have s1 := (blk_cell S1 1).trans rfl; have g0 := blk_free S1 0; have g1 := blk_free S1 1; clear R1 S1))
        rw [HR.out]
        exact out_end rfl R.out S.out HB.out rfl rfl rfl rfl (Nat.zero_le _) (F_nil' _ _ _) _ rfl
      · have hz := HA.out.2.2.2.2
        have hlt := HQ.out ho
        have hb2 : b ≤ (L.length : Int) := by omega
        have hlb := HL.out
        obtain ⟨d, hd⟩ : ∃ d, 30 - ls.length = d + 1 := ⟨30 - ls.length - 1, by have := HA.out.1; have := HA.out.2.1; omega⟩
        rw [hd] at hz
        have q0 : (0 : Int) ≤ b := hlt.1
        have q1 : b ≤ 140737488351232 := by omega
        have q2 : ¬ (ls.length : Int) = 30 := by omega
        have HZ2 := Lib.hid hz
        have HD := Lib.hid hd
        have HB2 := Lib.hid hlt.2.1
        clear hz hlt hd hlb hb2
        cases hs : isP (tokP L (b + 1)) bShut with
        | false =>
          rw [hs] at HV
          have HR := Lib.hid (show z = (z38, 0, (tokP L (b + 1)).f1, 5) from by rw [HZ2.out, deep_unshut_of ho hs]; exact wraps_fail _ _ (by decide) ls)
          have HF := J_fail (tokP L (b + 1)) 5
          refine (HW.out _).mono ?_
          rintro e2 w2 ⟨rfl, hb⟩
          replace HP := Lib.hid (HP.out.later hb)
          replace K := Lib.hid (blk_later hb K.out)
          clear hb
          go_wp2_with (fail)
          refine (HT.out (b + 1) _ HP.out.bel).mono ?_
          rintro e3 w3 ⟨rfl, hb⟩
          replace HP := Lib.hid (HP.out.later hb)
          replace K := Lib.hid (blk_later hb K.out)
          clear hb
          go_wp2_with (fail)
          refine (HV.out _).mono ?_
          rintro e4 w4 ⟨rfl, hb⟩
          replace HP := Lib.hid (HP.out.later hb)
          replace K := Lib.hid (blk_later hb K.out)
          clear hb
          go_wp2_with (fail)
          refine (HT.out (b + 1) _ HP.out.bel).mono ?_
          rintro e5 w5 ⟨rfl, hb⟩
          replace HP := Lib.hid (HP.out.later hb)
          replace K := Lib.hid (blk_later hb K.out)
          clear hb
          go_wp2_with (first | (go_at_call 30; refine (HF.out _).mono ?_; rintro e6 w6 ⟨A', m', rfl, hb⟩; replace HP := Lib.hid (HP.out.later hb); replace K := Lib.hid (blk_later hb K.out); clear hb; have HB := Lib.hid HP.out.bel; have R := Lib.hid HP.out.r; have S := Lib.hid HP.out.s; have R1 := R.out; have S1 := S.out; have r0 := (blk_cell R1 0).trans rfl; have r1 := (blk_cell R1 1).trans rfl; have r2 := (blk_cell R1 2).trans rfl; have r3 := (blk_cell R1 3).trans rfl; have r4 := (blk_cell R1 4).trans rfl; have f0 := blk_free R1 0; have f1 := blk_free R1 1; have f2 := blk_free R1 2; have f3 := blk_free R1 3; have f4 := blk_free R1 4; have s0 := (blk_cell S1 0).trans rfl; have s1 := (blk_cell S1 1).trans rfl; have g0 := blk_free S1 0; have g1 := blk_free S1 1; clear R1 S1))
          rw [HR.out]
          exact out_end rfl R.out S.out HB.out rfl rfl rfl rfl (Nat.zero_le _) (F_nil' _ _ _) _ rfl
        | true =>
          rw [hs] at HV
          have HS2 := Lib.hid (deep_in HZ2.out ho hs)
          refine (HW.out _).mono ?_
          rintro e2 w2 ⟨rfl, hb⟩
          replace HP := Lib.hid (HP.out.later hb)
          replace K := Lib.hid (blk_later hb K.out)
          clear hb
          go_wp2_with (fail)
          refine (HT.out (b + 1) _ HP.out.bel).mono ?_
          rintro e3 w3 ⟨rfl, hb⟩
          replace HP := Lib.hid (HP.out.later hb)
          replace K := Lib.hid (blk_later hb K.out)
          clear hb
          go_wp2_with (fail)
          refine (HV.out _).mono ?_
          rintro e4 w4 ⟨rfl, hb⟩
          replace HP := Lib.hid (HP.out.later hb)
          replace K := Lib.hid (blk_later hb K.out)
          clear hb
          have y0 := (blk_cell K.out 0).trans rfl
          have y1 := (blk_cell K.out 1).trans rfl
          have y2 := (blk_cell K.out 2).trans rfl
          have y3 := (blk_cell K.out 3).trans rfl
          have hown := HP.out.own
          have q3 : ls.length ≤ 30 := by have := HA.out.1; have := HA.out.2.1; omega
          go_wp2_with (at_builtin; refine wpList_append_own _ rfl _ _ 55 rfl w.heap.size 3 i0 (.int .i64 0) 1 8 Tryd.underlying55 hi3 hz0 hz1 hz2 rfl (by decide) _ _ _ rfl (hown.alloc _) ⟨w4.heap.size, 0, none⟩ 1 1 [.int .i64 (tokP L b).f1] rfl rfl ?c1 ?c2 ?c3 ?c4 ?c5 ?_)
          case c1 =>
            intro j u hu
            cases j with
            | zero => simp at hu; subst hu; simp [Addr.add]
            | succ j => simp at hu
          case c2 => intro u hu; simp at hu; subst hu; rfl
          case c3 => unfold maxLen; omega
          case c4 => omega
          case c5 => have := HP.out.bel.size; simp; omega
          intro v' w5 hown1 hg1 _
          have HP5 := Lib.hid ((HP.out.later (bel_alloc (Below.refl _ _) _)).grown hown1 hg1)
          clear hown hown1 hg1
          go_wp2_with (fail)
          go_roundg (gk - 1)
          case measure => have := HA.out.2.1; omega
          case rel =>
            have g1 := HA.out.1
            have g2 := HA.out.2.1
            have hlen : (ls ++ [(tokP L b).f1]).length = ls.length + 1 := by simp
            have hdd : 30 - (ls.length + 1) = d := by have := HD.out; omega
            exact ⟨b + 2, ls ++ [(tokP L b).f1], rfl, HP5, Lib.hid ⟨by rw [hlen]; omega, by omega, by omega, by have := HB2.out; omega, by rw [hlen, hdd]; exact HS2.out⟩⟩
end Go.Proofs.YtlmggfbpdciioaaDoor
