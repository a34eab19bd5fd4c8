/- typex.Parse, whole; the document's Same, of one type twice. typex: awake, TypexNames. -/
import Derived.Test.YtlmggfbpdciioaaDoorTxJ
namespace Go.Proofs.YtlmggfbpdciioaaDoor
open Go.RowKit PRef Go.Proofs.YtlmggfbpdciioaaDoorW.PrintWords
set_option linter.unusedVariables false
set_option linter.unusedSimpArgs false

theorem parse_any (A : Option Addr) (c : Nat) (L : List S31) (hs : ∀ t ∈ L, t.f3.size ≤ 9223372036854775807) (hl : L.length ≤ 140737488351232) (hc : L.length ≤ c) (a : Int) (w : World) (hC : Kd.C k31 w A L.length L) :
    Calls Tryd.prog 24 #[.slice A L.length c, .int .i64 a] w (OutR (parseP L a) w) := by
  by_cases hn : a < 0
  · rw [show parseP L a = failP (tokP L a) 5 from if_pos (.inl hn)]
    exact parse_below A c L hl hc a hn w hC
  · by_cases hg : (L.length : Int) < a
    · rw [show parseP L a = failP (tokP L a) 5 from if_pos (.inr hg)]
      exact parse_beyond A c L hl hc a hn hg w hC
    · rw [show parseP L a = deepP L 30 a from if_neg (by omega)]
      exact parse_in A c L hs hl hc a hn hg w hC

/-- A type with at most one part, and so on inwards. -/
inductive Thin : S38 → Prop
  | leaf (k t : Int) (a b : ByteArray) : Thin ⟨k, t, a, b, []⟩
  | one (k t : Int) (a b : ByteArray) (x : S38) : Thin x → Thin ⟨k, t, a, b, [x]⟩
theorem thin_leaf (L : List S31) (a : Int) : Thin (leafP L a).1 := by
  unfold leafP failP
  repeat' split
  all_goals exact .leaf _ _ _ _
theorem thin_deep (L : List S31) : ∀ (d : Nat) (a : Int), Thin (deepP L d a).1
  | 0, a => by
    unfold deepP
    split
    · exact .leaf _ _ _ _
    · exact thin_leaf L a
  | d + 1, a => by
    unfold deepP
    split
    · split
      · unfold wrapR
        split
        · exact .one _ _ _ _ _ (thin_deep L d (a + 2))
        · exact .leaf _ _ _ _
      · exact .leaf _ _ _ _
    · exact thin_leaf L a
theorem thin_parse (L : List S31) (a : Int) : Thin (parseP L a).1 := by
  unfold parseP
  split
  · exact .leaf _ _ _ _
  · exact thin_deep L 30 a
theorem same_up {k : Nat} {x y : S38} (h : quoinref03_Same.f k x.f0 x.f1 x.f2 x.f3 x.f4 y.f0 y.f1 y.f2 y.f3 y.f4 = some true) : quoinref03_Same.f (k + 1) x.f0 x.f1 x.f2 x.f3 x.f4 y.f0 y.f1 y.f2 y.f3 y.f4 = some true := quoinref03_Same.mono _ _ _ _ _ _ _ _ _ _ k _ h
theorem tsame {x : S38} (h : Thin x) : ∃ k, quoinref03_Same.f k x.f0 x.f1 x.f2 x.f3 x.f4 x.f0 x.f1 x.f2 x.f3 x.f4 = some true := by
  induction h with
  | leaf k t a b => exact ⟨3, by simp [quoinref03_Same.f, quoinref03_Same.j0, quoinref03_Same.l0]⟩
  | one k t a b x hx ih =>
    obtain ⟨n, hn⟩ := ih
    refine ⟨n + 1 + 1 + 1 + 1, ?_⟩
    have h1 := same_up hn
    have e0 : rd_T38 [x] 0 = x := rfl
    simp only [quoinref03_Same.f, if_true]
    rw [quoinref03_Same.j0, if_neg (by simp), quoinref03_Same.l0, if_pos (by simp), if_pos (by omega), if_pos (by simp), e0, h1]
    simp only [Option.bind_some, if_true]
    rw [quoinref03_Same.l0, if_neg (by rw [wrap_small (by omega) (by omega)]; simp)]
theorem same_c {x : S38} (h : Thin x) (A0 A1 : Option Addr) (c0 c1 : Nat) (w : World) (hr0 : Kd.C k38 w A0 x.f4.length x.f4) (hc0 : x.f4.length ≤ c0) (hr1 : Kd.C k38 w A1 x.f4.length x.f4) (hc1 : x.f4.length ≤ c1) :
    Calls Tryd.prog 26 #[.agg #[.int .i64 x.f0, .int .i64 x.f1, .string x.f2, .string x.f3, .slice A0 x.f4.length c0], .agg #[.int .i64 x.f0, .int .i64 x.f1, .string x.f2, .string x.f3, .slice A1 x.f4.length c1]] w fun e w' => e = .returned (.bool true) ∧ Below w.heap.size w w' := by
  obtain ⟨k, hk⟩ := tsame h
  exact quoinref03_Same.calls k _ _ _ _ A0 c0 _ _ _ _ _ A1 c1 _ true w hr0 hc0 hr1 hc1 hk
end Go.Proofs.YtlmggfbpdciioaaDoor
namespace Go.Proofs.YtlmggfbpdciioaaDoor
open Go.RowKit PRef Go.Proofs.YtlmggfbpdciioaaDoorW.PrintWords
set_option linter.unusedVariables false
set_option linter.unusedSimpArgs false

def sTx : ByteArray := ⟨#[91, 93, 97, 46, 84, 59]⟩
def tTx : List Tk := [⟨4, 0, 1⟩, ⟨4, 1, 2⟩, ⟨1, 2, 3⟩, ⟨4, 3, 4⟩, ⟨1, 4, 5⟩, ⟨4, 5, 6⟩, ⟨0, 6, 6⟩]
def lTx : List S31 := [⟨4, 0, 1, ⟨#[91]⟩⟩, ⟨4, 1, 2, ⟨#[93]⟩⟩, ⟨1, 2, 3, ⟨#[97]⟩⟩, ⟨4, 3, 4, ⟨#[46]⟩⟩, ⟨1, 4, 5, ⟨#[84]⟩⟩, ⟨4, 5, 6, ⟨#[59]⟩⟩, ⟨0, 6, 6, ⟨#[]⟩⟩]
theorem lx_tx : Lx 0 0 sTx.data.toList tTx none := lexE_lx 10 _ _ _ _ _ (by kernel_rfl)
theorem tx_l : tTx.map (tkS sTx) = lTx := by kernel_rfl
theorem all_tx (w : World) (ht : Tab w) : Calls Tryd.prog 15 #[.string ⟨#[91, 93, 97, 46, 84, 59]⟩] w fun r W => ∃ A c, r = .returned (.tuple #[.slice A 7 c, .agg #[.int .i64 0, .int .i64 0]]) ∧ 7 ≤ c ∧ Kd.C k31 W A 7 lTx ∧ Below w.heap.size w W :=
  (all_c sTx (by decide) w ht _ _ lx_tx).mono fun r W ⟨A, c, hr, hc, hC, hb⟩ => ⟨A, c, hr, hc, tx_l ▸ hC, hb⟩
def x0Tx : S38 := ⟨4, 2, ⟨#[97]⟩, ⟨#[84]⟩, []⟩
theorem parse_tx0 : parseP lTx 0 = (⟨5, 0, ⟨#[]⟩, ⟨#[]⟩, [x0Tx]⟩, 5, 0, 0) := by kernel_rfl
theorem parse_tx5 : parseP lTx 5 = (z38, 0, 5, 5) := by kernel_rfl
theorem ltx_small : ∀ t ∈ lTx, t.f3.size ≤ 9223372036854775807 := by decide
theorem p_tx0 (A : Option Addr) (c : Nat) (hc : 7 ≤ c) (w : World) (hC : Kd.C k31 w A 7 lTx) : Calls Tryd.prog 24 #[.slice A 7 c, .int .i64 0] w fun e W => ∃ A' c', e = .returned (.tuple #[.agg #[.int .i64 5, .int .i64 0, .string ⟨#[]⟩, .string ⟨#[]⟩, .slice A' 1 c'], .int .i64 5, .agg #[.int .i64 0, .int .i64 0]]) ∧ Kd.C k38 W A' 1 [x0Tx] ∧ Below w.heap.size w W := by
  have h := parse_any A c lTx ltx_small (by decide) hc 0 w hC
  rw [parse_tx0] at h
  exact h.mono fun e W ⟨A', c', h1, _, hF, hb⟩ => ⟨A', c', h1, Kd.F_now hF, hb⟩
theorem p_tx5 (A : Option Addr) (c : Nat) (hc : 7 ≤ c) (w : World) (hC : Kd.C k31 w A 7 lTx) : Calls Tryd.prog 24 #[.slice A 7 c, .int .i64 5] w fun e W => ∃ A' c', e = .returned (.tuple #[.agg #[.int .i64 0, .int .i64 0, .string ⟨#[]⟩, .string ⟨#[]⟩, .slice A' 0 c'], .int .i64 0, .agg #[.int .i64 5, .int .i64 5]]) ∧ Below w.heap.size w W := by
  have h := parse_any A c lTx ltx_small (by decide) hc 5 w hC
  rw [parse_tx5] at h
  exact h.mono fun e W ⟨A', c', h1, _, hF, hb⟩ => ⟨A', c', h1, hb⟩

set_option maxRecDepth 100000 in
set_option maxHeartbeats 2000000 in
theorem tawake_any (w : World) (ht : Tab w) : Calls Tryd.prog 23 #[] w fun e w' => e = .returned (.bool true) ∧ Below w.heap.size w w' := by
  have HT := Lib.hid ht
  clear ht
  go_enter Tryd.func23, Tryd.ntmps23
  go_wp2_with (fail)
  refine (all_tx w HT.out).mono ?_
  rintro e w1 ⟨A, c, rfl, hc, hC, hb1⟩
  have HCC := Lib.hid hc
  have HC := Lib.hid (Kd.C_below hC (bel_alloc (Below.refl _ _) (.cells #[.int .i64 0, .int .i64 0] 25)))
  have HB := Lib.hid (bel_alloc hb1 (.cells #[.int .i64 0, .int .i64 0] 25))
  clear hC hb1 hc
  go_wp2_with (fail)
  refine (p_tx0 A c HCC.out _ HC.out).mono ?_
  rintro e w2 ⟨A2, c2, rfl, hX, hb⟩
  replace HB := Lib.hid (bel_alloc (bel_alloc (bel_trans HB.out hb) (.cells #[.int .i64 5, .int .i64 0, .string ⟨#[]⟩, .string ⟨#[]⟩, .slice A2 1 c2] 38)) (.cells #[.int .i64 0, .int .i64 0] 25))
  replace HC := Lib.hid (Kd.C_below HC.out (bel_alloc (bel_alloc hb (.cells #[.int .i64 5, .int .i64 0, .string ⟨#[]⟩, .string ⟨#[]⟩, .slice A2 1 c2] 38)) (.cells #[.int .i64 0, .int .i64 0] 25)))
  have HX := Lib.hid (Kd.C_below hX (bel_alloc (bel_alloc (Below.refl _ _) (.cells #[.int .i64 5, .int .i64 0, .string ⟨#[]⟩, .string ⟨#[]⟩, .slice A2 1 c2] 38)) (.cells #[.int .i64 0, .int .i64 0] 25)))
  have B3 := Lib.hid (blk_alloc (blk_new w2 (.cells #[.int .i64 5, .int .i64 0, .string ⟨#[]⟩, .string ⟨#[]⟩, .slice A2 1 c2] 38)) (.cells #[.int .i64 0, .int .i64 0] 25))
  have B5 := Lib.hid (blk_new1 w2 (.cells #[.int .i64 5, .int .i64 0, .string ⟨#[]⟩, .string ⟨#[]⟩, .slice A2 1 c2] 38) (.cells #[.int .i64 0, .int .i64 0] 25))
  clear hb hX
  go_wp2_with (fail)
  refine (p_tx5 A c HCC.out _ HC.out).mono ?_
  rintro e w3 ⟨A3, c3, rfl, hb⟩
  replace HB := Lib.hid (bel_alloc (bel_alloc (bel_trans HB.out hb) (.cells #[.int .i64 0, .int .i64 0, .string ⟨#[]⟩, .string ⟨#[]⟩, .slice A3 0 c3] 38)) (.cells #[.int .i64 5, .int .i64 5] 25))
  have hX := Kd.C_below HX.out (bel_alloc (bel_alloc hb (.cells #[.int .i64 0, .int .i64 0, .string ⟨#[]⟩, .string ⟨#[]⟩, .slice A3 0 c3] 38)) (.cells #[.int .i64 5, .int .i64 5] 25))
  have b3 := blk_alloc (blk_alloc (blk_later hb B3.out) (.cells #[.int .i64 0, .int .i64 0, .string ⟨#[]⟩, .string ⟨#[]⟩, .slice A3 0 c3] 38)) (.cells #[.int .i64 5, .int .i64 5] 25)
  have b5 := blk_alloc (blk_alloc (blk_later hb B5.out) (.cells #[.int .i64 0, .int .i64 0, .string ⟨#[]⟩, .string ⟨#[]⟩, .slice A3 0 c3] 38)) (.cells #[.int .i64 5, .int .i64 5] 25)
  have b8 := blk_new1 w3 (.cells #[.int .i64 0, .int .i64 0, .string ⟨#[]⟩, .string ⟨#[]⟩, .slice A3 0 c3] 38) (.cells #[.int .i64 5, .int .i64 5] 25)
  obtain ⟨ad, A4, c4, rfl, x0, x1, x2, x3, x4, _, _⟩ := at_T38 hX 0 (by omega) (by omega)
  rw [show ad.add ((0 : Int).toNat * 5) = ad from if_pos rfl] at x0 x1 x2 x3 x4
  rw [show rd_T38 [x0Tx] 0 = x0Tx from rfl] at x0 x1 x2 x3 x4
  have z0 := (blk_cell b3 0).trans rfl
  have z4 := (blk_cell b3 4).trans rfl
  have u0 := (blk_cell b5 0).trans rfl
  have u1 := (blk_cell b5 1).trans rfl
  have v0 := (blk_cell b8 0).trans rfl
  have v1 := (blk_cell b8 1).trans rfl
  clear hb hX b3 b5 b8
  simp only [x0Tx] at x0 x1 x2 x3 x4
  go_wp2_with (fail)
  go_ret
  exact ⟨rfl, HB.out⟩

theorem typexNames_any (w : World) (ht : Tab w) : Calls Tryd.prog 9 #[] w fun e w' => e = .returned (.bool true) ∧ Below w.heap.size w w' := by
  have HC := Lib.hid (tawake_any w ht)
  go_enter Tryd.func9, Tryd.ntmps9
  go_wp2_with (fail)
  refine HC.out.mono ?_
  rintro e w1 ⟨rfl, hb1⟩
  have HB := Lib.hid hb1
  clear hb1 HC
  go_wp2_with (fail)
  go_ret
  exact ⟨rfl, HB.out⟩
end Go.Proofs.YtlmggfbpdciioaaDoor
