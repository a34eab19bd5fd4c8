/- typex: token, symbol, fails. -/
import Derived.Test.YtlmggfbpdciioaaDoorTxP
namespace Go.Proofs.YtlmggfbpdciioaaDoor
open Go.RowKit PRef Go.Proofs.YtlmggfbpdciioaaDoorW.PrintWords
set_option linter.unusedVariables false
set_option linter.unusedSimpArgs false

abbrev box31 : Obj := .cells #[.int .i64 0, .int .i64 0, .int .i64 0, .string ⟨#[]⟩] 31
theorem tok1_end {R : Ending → World → Prop} {a : Act} {W : World} {h : Nat} {v0 v1 v2 v3 : Value} (hR : W.heap[h]? = some (.cells #[v0, v1, v2, v3] 31 (0, 0)))
    (hp : a.tmps.getD 4 undef = .pointer (some ⟨h, 0, none⟩)) (hd : a.defers = []) (hQ : R (.returned (.agg #[v0, v1, v2, v3])) W) : bodyPost Tryd.prog Tryd.f31 R .ret a W :=
  bodyPost_ret (results_cell_row rfl a.tmps _ h 31 #[v0, v1, v2, v3] (0, 0) _ hp hR Tryd.underlying31 rfl (info31.trans rfl)) hd hQ
set_option maxRecDepth 100000 in
set_option maxHeartbeats 2000000 in
theorem token_any' (A : Option Addr) (c : Nat) (L : List S31) (at_ : Int) (hl : L.length ≤ 9223372036854775806) (w : World) (hC : Kd.C k31 w A L.length L) (hc : L.length ≤ c) :
    Calls Tryd.prog 31 #[.slice A L.length c, .int .i64 at_] w fun e w' => e = .returned (tokV (tokP L at_)) ∧ Below w.heap.size w w' := by
  have hC2 := Kd.C_below hC (bel_alloc (Below.refl _ _) box31)
  by_cases h : 0 ≤ at_ ∧ at_ < L.length
  · obtain ⟨ad, e, x0, x1, x2, x3⟩ := at_T31 hC2 at_ h.1 h.2
    rw [show tokP L at_ = rd_T31 L at_ from if_pos h]
    cases e
    obtain ⟨h1, h2⟩ := h
    generalize rd_T31 L at_ = t at *
    have H1 := eq_true h1
    have H2 := eq_true h2
    clear hC hC2
    go_enter Tryd.func31, Tryd.ntmps31
    go_wp2_with (fail)
    skip
    exact tok1_end (blk_new w _) rfl rfl ⟨rfl, bel_alloc (Below.refl _ _) _⟩
  · rw [show tokP L at_ = ⟨0, endP L, endP L, ⟨#[]⟩⟩ from if_neg h]
    have hd : (decide (0 ≤ at_) && decide (at_ < (L.length : Int))) = false := by
      rw [Bool.eq_false_iff]; intro hh; apply h; simpa using hh
    by_cases hL : 0 < L.length
    · obtain ⟨ad, e, x0, x1, x2, x3⟩ := at_T31 hC2 ((L.length : Int) - 1) (by omega) (by omega)
      cases e
      rw [show ((L.length : Int) - 1).toNat = L.length - 1 by omega] at x0 x1 x2 x3
      rw [show endP L = (rd_T31 L ((L.length : Int) - 1)).f2 from if_pos hL]
      generalize rd_T31 L ((L.length : Int) - 1) = t at *
      have k1 : (0 : Int) < (L.length : Int) := by omega
      have k2 : (0 : Int) ≤ (L.length : Int) - 1 := by omega
      have k3 : (L.length : Int) - 1 < (L.length : Int) := by omega
      have k4 : wrap64 ((L.length : Int) - 1) = (L.length : Int) - 1 := wrap_small (by omega) (by omega)
      clear hC hC2
      by_cases h0 : 0 ≤ at_
      · have h1 : ¬ at_ < (L.length : Int) := fun h1 => h ⟨h0, h1⟩
        go_enter Tryd.func31, Tryd.ntmps31
        go_wp2_with (fail)
        skip
        exact tok1_end (blk_new w _) rfl rfl ⟨rfl, bel_alloc (Below.refl _ _) _⟩
      · go_enter Tryd.func31, Tryd.ntmps31
        go_wp2_with (fail)
        skip
        exact tok1_end (blk_new w _) rfl rfl ⟨rfl, bel_alloc (Below.refl _ _) _⟩
    · rw [show endP L = 0 from if_neg hL]
      have k1 : ¬ (0 : Int) < (L.length : Int) := by omega
      have k2 : L.length = 0 := by omega
      clear hC hC2 hc
      by_cases h0 : 0 ≤ at_
      · have h1 : ¬ at_ < (L.length : Int) := fun h1 => h ⟨h0, h1⟩
        go_enter Tryd.func31, Tryd.ntmps31
        go_wp2_with (fail)
        skip
        exact tok1_end (blk_new w _) rfl rfl ⟨rfl, bel_alloc (Below.refl _ _) _⟩
      · go_enter Tryd.func31, Tryd.ntmps31
        go_wp2_with (fail)
        skip
        exact tok1_end (blk_new w _) rfl rfl ⟨rfl, bel_alloc (Below.refl _ _) _⟩
theorem symbol_any (t : S31) (s : ByteArray) (w : World) : Calls Tryd.prog 32 #[tokV t, .string s] w fun e w' => e = .returned (.bool (isP t s)) ∧ Below w.heap.size w w' := by
  unfold tokV
  by_cases h0 : t.f0 = 4
  · by_cases h3 : t.f3 = s
    · subst h3
      have e0 : (t.f0 == 4) = true := beq_iff_eq.2 h0
      rw [show isP t t.f3 = true by simp [isP, h0]]
      go_enter Tryd.func32, Tryd.ntmps32
      go_wp2_with (fail)
      go_ret
      exact ⟨rfl, bel_alloc (Below.refl _ _) _⟩
    · have e0 : (t.f0 == 4) = true := beq_iff_eq.2 h0
      have e1 : ¬ t.f3.toList = s.toList := fun h => h3 (ba_ext (by rw [ByteArray.toList_eq, ByteArray.toList_eq] at h; exact h))
      have e2 : (t.f3.toList == s.toList) = false := beq_eq_false_iff_ne.2 e1
      rw [show isP t s = false by simp [isP, h3]]
      go_enter Tryd.func32, Tryd.ntmps32
      go_wp2_with (fail)
      go_ret
      exact ⟨by first | rfl | (simp [Act.eval]; done) | (simp [Act.eval]; assumption), bel_alloc (Below.refl _ _) _⟩
  · have e0 : (t.f0 == 4) = false := beq_eq_false_iff_ne.2 h0
    rw [show isP t s = false by simp [isP, h0]]
    go_enter Tryd.func32, Tryd.ntmps32
    go_wp2_with (fail)
    go_ret
    exact ⟨rfl, bel_alloc (Below.refl _ _) _⟩
theorem blk_new1 (w : World) (o o' : Obj) : ((w.alloc o).alloc o').heap[w.heap.size + 1]? = some o' := by
  have h := blk_new (w.alloc o) o'
  have e : (w.alloc o).heap.size = w.heap.size + 1 := World.size_alloc _ _
  rw [e] at h
  exact h
theorem blk_new2 (w : World) (o o' o'' : Obj) : (((w.alloc o).alloc o').alloc o'').heap[w.heap.size + 1 + 1]? = some o'' := by
  have h := blk_new1 (w.alloc o) o' o''
  have e : (w.alloc o).heap.size = w.heap.size + 1 := World.size_alloc _ _
  rw [e] at h
  exact h
theorem fails_any (t : S31) (c : Int) (w : World) : Calls Tryd.prog 33 #[tokV t, .int .i64 c] w (OutR (failP t c) w) := by
  unfold tokV
  go_enter Tryd.func33, Tryd.ntmps33
  go_wp2_with (fail)
  go_region
  go_wp2_with (fail)
  exact ty_end rfl (blk_alloc (blk_new1 w _ _) _) (blk_new2 w _ _ _) rfl rfl rfl rfl ⟨none, 0, rfl, Nat.le_refl _, Kd.F_nil _ _ _, bel_trans (bel_alloc (bel_alloc (bel_alloc (Below.refl _ _) _) _) _) (Drawn0.mk ⟨1, rfl⟩ : Drawn0 _ _).below⟩
theorem fails_any' (t : S31) (c : Int) (w : World) : Calls Tryd.prog 30 #[tokV t, .int .i64 c] w (OutR (failP t c) w) := by
  unfold tokV
  go_enter Tryd.func30, Tryd.ntmps30
  go_wp2_with (fail)
  go_region
  go_wp2_with (fail)
  exact ty_end rfl (blk_alloc (blk_new1 w _ _) _) (blk_new2 w _ _ _) rfl rfl rfl rfl ⟨none, 0, rfl, Nat.le_refl _, Kd.F_nil _ _ _, bel_trans (bel_alloc (bel_alloc (bel_alloc (Below.refl _ _) _) _) _) (Drawn0.mk ⟨1, rfl⟩ : Drawn0 _ _).below⟩
end Go.Proofs.YtlmggfbpdciioaaDoor
