/- typex: the document's Parse. -/
import Derived.Test.YtlmggfbpdciioaaDoorTxF
namespace Go.Proofs.YtlmggfbpdciioaaDoor
open Go.RowKit PRef Go.Proofs.YtlmggfbpdciioaaDoorW.PrintWords
set_option linter.unusedVariables false
set_option linter.unusedSimpArgs false

set_option maxRecDepth 100000 in
set_option maxHeartbeats 4000000 in
theorem rparse_any (A : Option Addr) (c : Nat) (L : List S31) (hl : L.length ≤ 140737488351232) (hc : L.length ≤ c) (a : Int) (w : World) (hC : Kd.C k31 w A L.length L) :
    Calls Tryd.prog 25 #[.slice A L.length c, .int .i64 a] w (OutR (parseP L a) w) := by
  have HB := Lib.hid (bel_alloc (bel_alloc (Below.refl w.heap.size w) box38) box25)
  have R := Lib.hid (blk_alloc (blk_new w box38) box25)
  have S := Lib.hid (blk_new1 w box38 box25)
  by_cases hn : a < 0
  · have HA := H_tok hl hc hC a _ rfl
    rw [show parseP L a = failP (tokP L a) 5 from if_pos (.inl hn)]
    have HF := H_fail (tokP L a) 5
    generalize tokP L a = t at *
    clear hC hc hl
    go_enter Tryd.func25, Tryd.ntmps25
    go_wp2_with (fail)
    refine (HA.out _ HB.out).mono ?_
    rintro e1 w1 ⟨rfl, hb⟩
    replace HB := Lib.hid (bel_trans HB.out hb)
    replace R := Lib.hid (blk_later hb R.out)
    replace S := Lib.hid (blk_later hb S.out)
    clear hb
    go_wp2_with (fail)
    refine (HF.out _).mono ?_
    rintro e2 w2 ⟨A', m', rfl, hb⟩
    replace HB := Lib.hid (bel_trans HB.out hb)
    replace R := Lib.hid (blk_later hb R.out)
    replace S := Lib.hid (blk_later hb S.out)
    clear hb
    have R1 := R.out
    have S1 := S.out
    have r0 := (blk_cell R1 0).trans rfl
    have r1 := (blk_cell R1 1).trans rfl
    have r2 := (blk_cell R1 2).trans rfl
    have r3 := (blk_cell R1 3).trans rfl
    have r4 := (blk_cell R1 4).trans rfl
    have f0 := blk_free R1 0
    have f1 := blk_free R1 1
    have f2 := blk_free R1 2
    have f3 := blk_free R1 3
    have f4 := blk_free R1 4
    have s0 := (blk_cell S1 0).trans rfl
    have s1 := (blk_cell S1 1).trans rfl
    have g0 := blk_free S1 0
    have g1 := blk_free S1 1
    clear R1 S1
    go_wp2_with (fail)
    exact out_end rfl R.out S.out HB.out rfl rfl rfl rfl (Nat.zero_le _) (F_nil' _ _ _) _ rfl
  · by_cases hg : (L.length : Int) < a
    · have HA := H_tok hl hc hC a _ rfl
      rw [show parseP L a = failP (tokP L a) 5 from if_pos (.inr hg)]
      have HF := H_fail (tokP L a) 5
      generalize tokP L a = t at *
      clear hC hc hl
      go_enter Tryd.func25, Tryd.ntmps25
      go_wp2_with (fail)
      refine (HA.out _ HB.out).mono ?_
      rintro e1 w1 ⟨rfl, hb⟩
      replace HB := Lib.hid (bel_trans HB.out hb)
      replace R := Lib.hid (blk_later hb R.out)
      replace S := Lib.hid (blk_later hb S.out)
      clear hb
      go_wp2_with (fail)
      refine (HF.out _).mono ?_
      rintro e2 w2 ⟨A', m', rfl, hb⟩
      replace HB := Lib.hid (bel_trans HB.out hb)
      replace R := Lib.hid (blk_later hb R.out)
      replace S := Lib.hid (blk_later hb S.out)
      clear hb
      have R1 := R.out
      have S1 := S.out
      have r0 := (blk_cell R1 0).trans rfl
      have r1 := (blk_cell R1 1).trans rfl
      have r2 := (blk_cell R1 2).trans rfl
      have r3 := (blk_cell R1 3).trans rfl
      have r4 := (blk_cell R1 4).trans rfl
      have f0 := blk_free R1 0
      have f1 := blk_free R1 1
      have f2 := blk_free R1 2
      have f3 := blk_free R1 3
      have f4 := blk_free R1 4
      have s0 := (blk_cell S1 0).trans rfl
      have s1 := (blk_cell S1 1).trans rfl
      have g0 := blk_free S1 0
      have g1 := blk_free S1 1
      clear R1 S1
      go_wp2_with (fail)
      exact out_end rfl R.out S.out HB.out rfl rfl rfl rfl (Nat.zero_le _) (F_nil' _ _ _) _ rfl
    · have HD : Hid (∀ w', Below w.heap.size w w' → Calls Tryd.prog 35 #[.slice A L.length c, .int .i64 a, .int .i64 0] w' (OutR (deepP L 30 a) w')) :=
        Lib.hid (fun w' hb => deep_any A c L hl hc 30 (Nat.le_refl _) a 0 (by omega) (by omega) (by omega) w' (Kd.C_below hC hb))
      rw [show parseP L a = deepP L 30 a from if_neg (by omega)]
      generalize deepP L 30 a = z at *
      obtain ⟨x, n, da, dc⟩ := z
      clear hC hc hl
      go_enter Tryd.func25, Tryd.ntmps25
      go_wp2_with (fail)
      refine (HD.out _ HB.out).mono ?_
      rintro e1 w1 ⟨A', m', rfl, hm, hF, hb⟩
      replace HB := Lib.hid (bel_trans HB.out hb)
      replace R := Lib.hid (blk_later hb R.out)
      replace S := Lib.hid (blk_later hb S.out)
      have hF2 : Kd.F k38 w1 (fun k => w.heap.size + 2 ≤ k) A' x.f4.length x.f4 := Kd.F_mono hF (fun k hk => by have hk : ((w.alloc box38).alloc box25).heap.size ≤ k := hk; rw [World.size_alloc, World.size_alloc] at hk; show w.heap.size + 2 ≤ k; omega)
      have HF := Lib.hid hF2
      have HM := Lib.hid hm
      clear hF hF2 hm hb
      have R1 := R.out
      have S1 := S.out
      have r0 := (blk_cell R1 0).trans rfl
      have r1 := (blk_cell R1 1).trans rfl
      have r2 := (blk_cell R1 2).trans rfl
      have r3 := (blk_cell R1 3).trans rfl
      have r4 := (blk_cell R1 4).trans rfl
      have f0 := blk_free R1 0
      have f1 := blk_free R1 1
      have f2 := blk_free R1 2
      have f3 := blk_free R1 3
      have f4 := blk_free R1 4
      have s0 := (blk_cell S1 0).trans rfl
      have s1 := (blk_cell S1 1).trans rfl
      have g0 := blk_free S1 0
      have g1 := blk_free S1 1
      clear R1 S1
      go_wp2_with (fail)
      exact out_end rfl R.out S.out HB.out rfl rfl rfl rfl HM.out HF.out _ (by cases x; rfl)
end Go.Proofs.YtlmggfbpdciioaaDoor
