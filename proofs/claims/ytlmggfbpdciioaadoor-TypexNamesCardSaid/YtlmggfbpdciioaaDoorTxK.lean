/- typex.Parse, whole; the document's Same, of one type twice. -/
import Derived.Test.YtlmggfbpdciioaaDoorTxJ
namespace Go.Proofs.YtlmggfbpdciioaaDoor
open Go.RowKit PRef Go.Proofs.YtlmggfbpdciioaaDoorW.PrintWords
set_option linter.unusedVariables false
set_option linter.unusedSimpArgs false

theorem parse_any (A : Option Addr) (c : Nat) (L : List S31) (hs : ∀ t ∈ L, t.f3.size ≤ 9223372036854775807) (hl : L.length ≤ 140737488351232) (hc : L.length ≤ c) (a : Int) (w : World) (hC : Kd.C k31 w A L.length L) :
    Calls Tryd.prog 24 #[.slice A L.length c, .int .i64 a] w (OutR (parseP L a) w) := by
  by_cases hn : a < 0
  · rw [show parseP L a = failP (tokP L a) 5 from if_pos (.inl hn)]
    exact parse_below A c L hl hc a hn w hC
  · by_cases hg : (L.length : Int) < a
    · rw [show parseP L a = failP (tokP L a) 5 from if_pos (.inr hg)]
      exact parse_beyond A c L hl hc a hn hg w hC
    · rw [show parseP L a = deepP L 30 a from if_neg (by omega)]
      exact parse_in A c L hs hl hc a hn hg w hC

/-- A type with at most one part, and so on inwards. -/
inductive Thin : S38 → Prop
  | leaf (k t : Int) (a b : ByteArray) : Thin ⟨k, t, a, b, []⟩
  | one (k t : Int) (a b : ByteArray) (x : S38) : Thin x → Thin ⟨k, t, a, b, [x]⟩
theorem thin_leaf (L : List S31) (a : Int) : Thin (leafP L a).1 := by
  unfold leafP failP
  repeat' split
  all_goals exact .leaf _ _ _ _
theorem thin_deep (L : List S31) : ∀ (d : Nat) (a : Int), Thin (deepP L d a).1
  | 0, a => by
    unfold deepP
    split
    · exact .leaf _ _ _ _
    · exact thin_leaf L a
  | d + 1, a => by
    unfold deepP
    split
    · split
      · unfold wrapR
        split
        · exact .one _ _ _ _ _ (thin_deep L d (a + 2))
        · exact .leaf _ _ _ _
      · exact .leaf _ _ _ _
    · exact thin_leaf L a
theorem thin_parse (L : List S31) (a : Int) : Thin (parseP L a).1 := by
  unfold parseP
  split
  · exact .leaf _ _ _ _
  · exact thin_deep L 30 a
theorem same_up {k : Nat} {x y : S38} (h : quoinref03_Same.f k x.f0 x.f1 x.f2 x.f3 x.f4 y.f0 y.f1 y.f2 y.f3 y.f4 = some true) : quoinref03_Same.f (k + 1) x.f0 x.f1 x.f2 x.f3 x.f4 y.f0 y.f1 y.f2 y.f3 y.f4 = some true := quoinref03_Same.mono _ _ _ _ _ _ _ _ _ _ k _ h
theorem tsame {x : S38} (h : Thin x) : ∃ k, quoinref03_Same.f k x.f0 x.f1 x.f2 x.f3 x.f4 x.f0 x.f1 x.f2 x.f3 x.f4 = some true := by
  induction h with
  | leaf k t a b => exact ⟨3, by simp [quoinref03_Same.f, quoinref03_Same.j0, quoinref03_Same.l0]⟩
  | one k t a b x hx ih =>
    obtain ⟨n, hn⟩ := ih
    refine ⟨n + 1 + 1 + 1 + 1, ?_⟩
    have h1 := same_up hn
    have e0 : rd_T38 [x] 0 = x := rfl
    simp only [quoinref03_Same.f, if_true]
    rw [quoinref03_Same.j0, if_neg (by simp), quoinref03_Same.l0, if_pos (by simp), if_pos (by omega), if_pos (by simp), e0, h1]
    simp only [Option.bind_some, if_true]
    rw [quoinref03_Same.l0, if_neg (by rw [wrap_small (by omega) (by omega)]; simp)]
theorem same_c {x : S38} (h : Thin x) (A0 A1 : Option Addr) (c0 c1 : Nat) (w : World) (hr0 : Kd.C k38 w A0 x.f4.length x.f4) (hc0 : x.f4.length ≤ c0) (hr1 : Kd.C k38 w A1 x.f4.length x.f4) (hc1 : x.f4.length ≤ c1) :
    Calls Tryd.prog 26 #[.agg #[.int .i64 x.f0, .int .i64 x.f1, .string x.f2, .string x.f3, .slice A0 x.f4.length c0], .agg #[.int .i64 x.f0, .int .i64 x.f1, .string x.f2, .string x.f3, .slice A1 x.f4.length c1]] w fun e w' => e = .returned (.bool true) ∧ Below w.heap.size w w' := by
  obtain ⟨k, hk⟩ := tsame h
  exact quoinref03_Same.calls k _ _ _ _ A0 c0 _ _ _ _ _ A1 c1 _ true w hr0 hc0 hr1 hc1 hk
end Go.Proofs.YtlmggfbpdciioaaDoor
