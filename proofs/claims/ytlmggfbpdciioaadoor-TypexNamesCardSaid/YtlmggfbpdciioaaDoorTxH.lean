/- typex.Parse. -/
import Derived.Test.YtlmggfbpdciioaaDoorTxG
namespace Go.Proofs.YtlmggfbpdciioaaDoor
open Go.RowKit PRef Go.Proofs.YtlmggfbpdciioaaDoorW.PrintWords
set_option linter.unusedVariables false
set_option linter.unusedSimpArgs false

theorem J_tok {A : Option Addr} {c : Nat} {L : List S31} (hl : L.length ≤ 140737488351232) (hc : L.length ≤ c) {w : World} (hC : Kd.C k31 w A L.length L) (x : Int) (t : S31) (ht : tokP L x = t) :
    Hid (∀ w', Below w.heap.size w w' → Calls Tryd.prog 31 #[.slice A L.length c, .int .i64 x] w' fun e w'' => e = .returned (.agg #[.int .i64 t.f0, .int .i64 t.f1, .int .i64 t.f2, .string t.f3]) ∧ Below w'.heap.size w' w'') :=
  Lib.hid (fun w' hb => by
    have := token_any' A c L x (by omega) w' (Kd.C_below hC hb) hc
    rw [ht] at this
    exact this)
theorem J_is (t : S31) (s : ByteArray) (b : Bool) (h : isP t s = b) :
    Hid (∀ w', Calls Tryd.prog 32 #[.agg #[.int .i64 t.f0, .int .i64 t.f1, .int .i64 t.f2, .string t.f3], .string s] w' fun e w'' => e = .returned (.bool b) ∧ Below w'.heap.size w' w'') :=
  Lib.hid (fun w' => by subst h; exact symbol_any t s w')
theorem J_fail (t : S31) (k : Int) :
    Hid (∀ w', Calls Tryd.prog 30 #[.agg #[.int .i64 t.f0, .int .i64 t.f1, .int .i64 t.f2, .string t.f3], .int .i64 k] w' fun e W => ∃ A m, e = .returned (.tuple #[.agg #[.int .i64 0, .int .i64 0, .string ⟨#[]⟩, .string ⟨#[]⟩, .slice A 0 m], .int .i64 0, .agg #[.int .i64 t.f1, .int .i64 k]]) ∧ Below w'.heap.size w' W) :=
  Lib.hid (fun w' => (fails_any' t k w').mono fun e W h => by
    obtain ⟨A, m, h1, _, _, h2⟩ := h
    exact ⟨A, m, h1, h2⟩)

set_option maxRecDepth 100000 in
set_option maxHeartbeats 4000000 in
theorem parse_below (A : Option Addr) (c : Nat) (L : List S31) (hl : L.length ≤ 140737488351232) (hc : L.length ≤ c) (a : Int) (hn : a < 0) (w : World) (hC : Kd.C k31 w A L.length L) :
    Calls Tryd.prog 24 #[.slice A L.length c, .int .i64 a] w (OutR (failP (tokP L a) 5) w) := by
  have HA := J_tok hl hc hC a _ rfl
  have HF := J_fail (tokP L a) 5
  generalize tokP L a = t at *
  clear hC hc hl
  have HB := Lib.hid (bel_alloc (bel_alloc (Below.refl w.heap.size w) box38) box25)
  have R := Lib.hid (blk_alloc (blk_new w box38) box25)
  have S := Lib.hid (blk_new1 w box38 box25)
  go_enter Tryd.func24, Tryd.ntmps24
  go_wp2_with (fail)
  refine wp_scope_straight ?_
  go_wp2_with (fail)
  refine (HA.out _ HB.out).mono ?_
  rintro e1 w1 ⟨rfl, hb⟩
  replace HB := Lib.hid (bel_trans HB.out hb)
  replace R := Lib.hid (blk_later hb R.out)
  replace S := Lib.hid (blk_later hb S.out)
  clear hb
  go_wp2_with (first | (go_at_call 30; refine (HF.out _).mono ?_; rintro e2 w2 ⟨A', m', rfl, hb⟩; replace HB := Lib.hid (bel_trans HB.out hb); replace R := Lib.hid (blk_later hb R.out); replace S := Lib.hid (blk_later hb S.out); clear hb; have R1 := R.out; have S1 := S.out; have r0 := (blk_cell R1 0).trans rfl; have r1 := (blk_cell R1 1).trans rfl; have r2 := (blk_cell R1 2).trans rfl; have r3 := (blk_cell R1 3).trans rfl; have r4 := (blk_cell R1 4).trans rfl; have f0 := blk_free R1 0; have f1 := blk_free R1 1; have f2 := blk_free R1 2; have f3 := blk_free R1 3; have f4 := blk_free R1 4; have s0 := (blk_cell S1 0).trans rfl; have s1 := (blk_cell S1 1).trans rfl; have g0 := blk_free S1 0; have g1 := blk_free S1 1; clear R1 S1))
  rw [Exit.noGoto_ret]
  exact out_end rfl R.out S.out HB.out rfl rfl rfl rfl (Nat.zero_le _) (F_nil' _ _ _) _ rfl
set_option maxRecDepth 100000 in
set_option maxHeartbeats 4000000 in
theorem parse_beyond (A : Option Addr) (c : Nat) (L : List S31) (hl : L.length ≤ 140737488351232) (hc : L.length ≤ c) (a : Int) (hn : ¬ a < 0) (hg : (L.length : Int) < a) (w : World) (hC : Kd.C k31 w A L.length L) :
    Calls Tryd.prog 24 #[.slice A L.length c, .int .i64 a] w (OutR (failP (tokP L a) 5) w) := by
  have HA := J_tok hl hc hC a _ rfl
  have HF := J_fail (tokP L a) 5
  generalize tokP L a = t at *
  clear hC hc hl
  have HB := Lib.hid (bel_alloc (bel_alloc (Below.refl w.heap.size w) box38) box25)
  have R := Lib.hid (blk_alloc (blk_new w box38) box25)
  have S := Lib.hid (blk_new1 w box38 box25)
  go_enter Tryd.func24, Tryd.ntmps24
  go_wp2_with (fail)
  refine wp_scope_straight ?_
  go_wp2_with (fail)
  refine (HA.out _ HB.out).mono ?_
  rintro e1 w1 ⟨rfl, hb⟩
  replace HB := Lib.hid (bel_trans HB.out hb)
  replace R := Lib.hid (blk_later hb R.out)
  replace S := Lib.hid (blk_later hb S.out)
  clear hb
  go_wp2_with (first | (go_at_call 30; refine (HF.out _).mono ?_; rintro e2 w2 ⟨A', m', rfl, hb⟩; replace HB := Lib.hid (bel_trans HB.out hb); replace R := Lib.hid (blk_later hb R.out); replace S := Lib.hid (blk_later hb S.out); clear hb; have R1 := R.out; have S1 := S.out; have r0 := (blk_cell R1 0).trans rfl; have r1 := (blk_cell R1 1).trans rfl; have r2 := (blk_cell R1 2).trans rfl; have r3 := (blk_cell R1 3).trans rfl; have r4 := (blk_cell R1 4).trans rfl; have f0 := blk_free R1 0; have f1 := blk_free R1 1; have f2 := blk_free R1 2; have f3 := blk_free R1 3; have f4 := blk_free R1 4; have s0 := (blk_cell S1 0).trans rfl; have s1 := (blk_cell S1 1).trans rfl; have g0 := blk_free S1 0; have g1 := blk_free S1 1; clear R1 S1))
  rw [Exit.noGoto_ret]
  exact out_end rfl R.out S.out HB.out rfl rfl rfl rfl (Nat.zero_le _) (F_nil' _ _ _) _ rfl
end Go.Proofs.YtlmggfbpdciioaaDoor
