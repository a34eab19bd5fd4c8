/- typex: token, symbol, fails. typex: the document's deep. -/
import Derived.Test.YtlmggfbpdciioaaDoorTxP
import Derived.Test.YtlmggfbpdciioaaDoorPRefx6
namespace Go.Proofs.YtlmggfbpdciioaaDoor
open Go.RowKit PRef Go.Proofs.YtlmggfbpdciioaaDoorW.PrintWords
set_option linter.unusedVariables false
set_option linter.unusedSimpArgs false

abbrev box31 : Obj := .cells #[.int .i64 0, .int .i64 0, .int .i64 0, .string ⟨#[]⟩] 31
theorem tok1_end {R : Ending → World → Prop} {a : Act} {W : World} {h : Nat} {v0 v1 v2 v3 : Value} (hR : W.heap[h]? = some (.cells #[v0, v1, v2, v3] 31 (0, 0)))
    (hp : a.tmps.getD 4 undef = .pointer (some ⟨h, 0, none⟩)) (hd : a.defers = []) (hQ : R (.returned (.agg #[v0, v1, v2, v3])) W) : bodyPost Tryd.prog Tryd.f31 R .ret a W :=
  bodyPost_ret (results_cell_row rfl a.tmps _ h 31 #[v0, v1, v2, v3] (0, 0) _ hp hR Tryd.underlying31 rfl (info31.trans rfl)) hd hQ
set_option maxRecDepth 100000 in
set_option maxHeartbeats 2000000 in
theorem token_any' (A : Option Addr) (c : Nat) (L : List S31) (at_ : Int) (hl : L.length ≤ 9223372036854775806) (w : World) (hC : Kd.C k31 w A L.length L) (hc : L.length ≤ c) :
    Calls Tryd.prog 31 #[.slice A L.length c, .int .i64 at_] w fun e w' => e = .returned (tokV (tokP L at_)) ∧ Below w.heap.size w w' := by
  have hC2 := Kd.C_below hC (bel_alloc (Below.refl _ _) box31)
  by_cases h : 0 ≤ at_ ∧ at_ < L.length
  · obtain ⟨ad, e, x0, x1, x2, x3⟩ := at_T31 hC2 at_ h.1 h.2
    rw [show tokP L at_ = rd_T31 L at_ from if_pos h]
    cases e
    obtain ⟨h1, h2⟩ := h
    generalize rd_T31 L at_ = t at *
    have H1 := eq_true h1
    have H2 := eq_true h2
    clear hC hC2
    go_enter Tryd.func31, Tryd.ntmps31
    go_wp2_with (fail)
    skip
    exact tok1_end (blk_new w _) rfl rfl ⟨rfl, bel_alloc (Below.refl _ _) _⟩
  · rw [show tokP L at_ = ⟨0, endP L, endP L, ⟨#[]⟩⟩ from if_neg h]
    have hd : (decide (0 ≤ at_) && decide (at_ < (L.length : Int))) = false := by
      rw [Bool.eq_false_iff]; intro hh; apply h; simpa using hh
    by_cases hL : 0 < L.length
    · obtain ⟨ad, e, x0, x1, x2, x3⟩ := at_T31 hC2 ((L.length : Int) - 1) (by omega) (by omega)
      cases e
      rw [show ((L.length : Int) - 1).toNat = L.length - 1 by omega] at x0 x1 x2 x3
      rw [show endP L = (rd_T31 L ((L.length : Int) - 1)).f2 from if_pos hL]
      generalize rd_T31 L ((L.length : Int) - 1) = t at *
      have k1 : (0 : Int) < (L.length : Int) := by omega
      have k2 : (0 : Int) ≤ (L.length : Int) - 1 := by omega
      have k3 : (L.length : Int) - 1 < (L.length : Int) := by omega
      have k4 : wrap64 ((L.length : Int) - 1) = (L.length : Int) - 1 := wrap_small (by omega) (by omega)
      clear hC hC2
      by_cases h0 : 0 ≤ at_
      · have h1 : ¬ at_ < (L.length : Int) := fun h1 => h ⟨h0, h1⟩
        go_enter Tryd.func31, Tryd.ntmps31
        go_wp2_with (fail)
        skip
        exact tok1_end (blk_new w _) rfl rfl ⟨rfl, bel_alloc (Below.refl _ _) _⟩
      · go_enter Tryd.func31, Tryd.ntmps31
        go_wp2_with (fail)
        skip
        exact tok1_end (blk_new w _) rfl rfl ⟨rfl, bel_alloc (Below.refl _ _) _⟩
    · rw [show endP L = 0 from if_neg hL]
      have k1 : ¬ (0 : Int) < (L.length : Int) := by omega
      have k2 : L.length = 0 := by omega
      clear hC hC2 hc
      by_cases h0 : 0 ≤ at_
      · have h1 : ¬ at_ < (L.length : Int) := fun h1 => h ⟨h0, h1⟩
        go_enter Tryd.func31, Tryd.ntmps31
        go_wp2_with (fail)
        skip
        exact tok1_end (blk_new w _) rfl rfl ⟨rfl, bel_alloc (Below.refl _ _) _⟩
      · go_enter Tryd.func31, Tryd.ntmps31
        go_wp2_with (fail)
        skip
        exact tok1_end (blk_new w _) rfl rfl ⟨rfl, bel_alloc (Below.refl _ _) _⟩
theorem symbol_any (t : S31) (s : ByteArray) (w : World) : Calls Tryd.prog 32 #[tokV t, .string s] w fun e w' => e = .returned (.bool (isP t s)) ∧ Below w.heap.size w w' := by
  unfold tokV
  by_cases h0 : t.f0 = 4
  · by_cases h3 : t.f3 = s
    · subst h3
      have e0 : (t.f0 == 4) = true := beq_iff_eq.2 h0
      rw [show isP t t.f3 = true by simp [isP, h0]]
      go_enter Tryd.func32, Tryd.ntmps32
      go_wp2_with (fail)
      go_ret
      exact ⟨rfl, bel_alloc (Below.refl _ _) _⟩
    · have e0 : (t.f0 == 4) = true := beq_iff_eq.2 h0
      have e1 : ¬ t.f3.toList = s.toList := fun h => h3 (ba_ext (by rw [ByteArray.toList_eq, ByteArray.toList_eq] at h; exact h))
      have e2 : (t.f3.toList == s.toList) = false := beq_eq_false_iff_ne.2 e1
      rw [show isP t s = false by simp [isP, h3]]
      go_enter Tryd.func32, Tryd.ntmps32
      go_wp2_with (fail)
      go_ret
      exact ⟨by first | rfl | (simp [Act.eval]; done) | (simp [Act.eval]; assumption), bel_alloc (Below.refl _ _) _⟩
  · have e0 : (t.f0 == 4) = false := beq_eq_false_iff_ne.2 h0
    rw [show isP t s = false by simp [isP, h0]]
    go_enter Tryd.func32, Tryd.ntmps32
    go_wp2_with (fail)
    go_ret
    exact ⟨rfl, bel_alloc (Below.refl _ _) _⟩
theorem blk_new1 (w : World) (o o' : Obj) : ((w.alloc o).alloc o').heap[w.heap.size + 1]? = some o' := by
  have h := blk_new (w.alloc o) o'
  have e : (w.alloc o).heap.size = w.heap.size + 1 := World.size_alloc _ _
  rw [e] at h
  exact h
theorem blk_new2 (w : World) (o o' o'' : Obj) : (((w.alloc o).alloc o').alloc o'').heap[w.heap.size + 1 + 1]? = some o'' := by
  have h := blk_new1 (w.alloc o) o' o''
  have e : (w.alloc o).heap.size = w.heap.size + 1 := World.size_alloc _ _
  rw [e] at h
  exact h
theorem fails_any (t : S31) (c : Int) (w : World) : Calls Tryd.prog 33 #[tokV t, .int .i64 c] w (OutR (failP t c) w) := by
  unfold tokV
  go_enter Tryd.func33, Tryd.ntmps33
  go_wp2_with (fail)
  go_region
  go_wp2_with (fail)
  exact ty_end rfl (blk_alloc (blk_new1 w _ _) _) (blk_new2 w _ _ _) rfl rfl rfl rfl ⟨none, 0, rfl, Nat.le_refl _, Kd.F_nil _ _ _, bel_trans (bel_alloc (bel_alloc (bel_alloc (Below.refl _ _) _) _) _) (Drawn0.mk ⟨1, rfl⟩ : Drawn0 _ _).below⟩
theorem fails_any' (t : S31) (c : Int) (w : World) : Calls Tryd.prog 30 #[tokV t, .int .i64 c] w (OutR (failP t c) w) := by
  unfold tokV
  go_enter Tryd.func30, Tryd.ntmps30
  go_wp2_with (fail)
  go_region
  go_wp2_with (fail)
  exact ty_end rfl (blk_alloc (blk_new1 w _ _) _) (blk_new2 w _ _ _) rfl rfl rfl rfl ⟨none, 0, rfl, Nat.le_refl _, Kd.F_nil _ _ _, bel_trans (bel_alloc (bel_alloc (bel_alloc (Below.refl _ _) _) _) _) (Drawn0.mk ⟨1, rfl⟩ : Drawn0 _ _).below⟩
end Go.Proofs.YtlmggfbpdciioaaDoor
namespace Go.Proofs.YtlmggfbpdciioaaDoor
open Go.RowKit PRef Go.Proofs.YtlmggfbpdciioaaDoorW.PrintWords
set_option linter.unusedVariables false
set_option linter.unusedSimpArgs false

theorem rtok (L : List S31) (hl : L.length ≤ 9223372036854775806) (a : Int) : quoinref03_Token.f 1 L a = some ((tokP L a).f0, (tokP L a).f1, (tokP L a).f2, (tokP L a).f3) := by
  unfold quoinref03_Token.f
  by_cases h : 0 ≤ a ∧ a < L.length
  · rw [if_pos (show a ≥ 0 from h.1), quoinref03_Token.j0, if_pos (decide_eq_true h.2), if_pos h.1, if_pos h.2, show tokP L a = rd_T31 L a from if_pos h]
  · rw [show tokP L a = ⟨0, endP L, endP L, ⟨#[]⟩⟩ from if_neg h]
    have hj : ∀ b, b = false → quoinref03_Token.j0 1 L a b = some (0, endP L, endP L, ⟨#[]⟩) := by
      rintro b rfl
      rw [quoinref03_Token.j0, if_neg (by simp)]
      unfold endP
      by_cases hL : 0 < L.length
      · rw [if_pos (by omega), wrap_small (by omega) (by omega), if_pos (by omega), if_pos (by omega), if_pos hL]
      · rw [if_neg (by omega), if_neg hL]
    by_cases h0 : a ≥ 0
    · rw [if_pos h0]; exact hj _ (decide_eq_false (fun h1 => h ⟨h0, h1⟩))
    · rw [if_neg h0]; exact hj _ rfl
theorem token34 (A : Option Addr) (c : Nat) (L : List S31) (a : Int) (hl : L.length ≤ 9223372036854775806) (w : World) (hC : Kd.C k31 w A L.length L) (hc : L.length ≤ c) :
    Calls Tryd.prog 34 #[.slice A L.length c, .int .i64 a] w fun e w' => e = .returned (tokV (tokP L a)) ∧ Below w.heap.size w w' :=
  quoinref03_Token.calls 1 A c L a _ _ _ _ w hC hc (rtok L hl a)
theorem is46 (t : S31) (c : ByteArray) (w : World) : Calls Tryd.prog 46 #[tokV t, .int .i64 4, .string c] w fun e w' => e = .returned (.bool (isP t c)) ∧ Below w.heap.size w w' := by
  refine quoinref03_Is.calls t.f0 t.f1 t.f2 t.f3 4 c _ w ?_
  unfold quoinref03_Is.f isP
  by_cases h : t.f0 = 4
  · rw [if_pos h]
    congr 1
    by_cases h3 : t.f3 = c
    · subst h3; simp [h]
    · have e1 : ¬ t.f3.toList = c.toList := fun hh => h3 (ba_ext (by rw [ByteArray.toList_eq, ByteArray.toList_eq] at hh; exact hh))
      rw [beq_eq_false_iff_ne.2 e1]; simp [h3]
  · rw [if_neg h]; simp [h]

abbrev box38 : Obj := .cells #[.int .i64 0, .int .i64 0, .string ⟨#[]⟩, .string ⟨#[]⟩, .slice none 0 0] 38
abbrev box25 : Obj := .cells #[.int .i64 0, .int .i64 0] 25
theorem set5 {W : World} {b : Nat} {u0 u1 u2 u3 u4 : Value} (v0 v1 v2 v3 v4 : Value) (h : W.heap[b]? = some (.cells #[u0, u1, u2, u3, u4] 38 (0, 0))) :
    (((((W.setCell ⟨b, 0, none⟩ v0).setCell ⟨b, 1, none⟩ v1).setCell ⟨b, 2, none⟩ v2).setCell ⟨b, 3, none⟩ v3).setCell ⟨b, 4, none⟩ v4).heap[b]? = some (.cells #[v0, v1, v2, v3, v4] 38 (0, 0)) :=
  (blk_set (blk_set (blk_set (blk_set (blk_set h 0 v0) 1 v1) 2 v2) 3 v3) 4 v4).trans rfl
theorem set2 {W : World} {b : Nat} {u0 u1 : Value} (v0 v1 : Value) (h : W.heap[b]? = some (.cells #[u0, u1] 25 (0, 0))) :
    ((W.setCell ⟨b, 0, none⟩ v0).setCell ⟨b, 1, none⟩ v1).heap[b]? = some (.cells #[v0, v1] 25 (0, 0)) :=
  (blk_set (blk_set h 0 v0) 1 v1).trans rfl
theorem bel_put {w W : World} (h : Below w.heap.size w W) (b j : Nat) (v : Value) (hb : w.heap.size ≤ b) : Below w.heap.size w (W.setCell ⟨b, j, none⟩ v) := h.setCell hb v
/-- The end: what is handed back is laid into its variables. -/
theorem out_end {fn : Func} {p q r : Tmp} (hr : fn.results = #[.cell p 38, .tmp q, .cell r 25]) {w W : World} {u0 u1 u2 u3 u4 d0 d1 : Value} (R1 : W.heap[w.heap.size]? = some (.cells #[u0, u1, u2, u3, u4] 38 (0, 0))) (S1 : W.heap[w.heap.size + 1]? = some (.cells #[d0, d1] 25 (0, 0)))
    (HB : Below w.heap.size w W) {k t : Int} {s2 s3 : ByteArray} {A : Option Addr} {c : Nat} {l : List S38} {n da dc : Int} {a : Act} (hp : a.tmps.getD p undef = .pointer (some ⟨w.heap.size, 0, none⟩)) (hg : a.tmps.getD r undef = .pointer (some ⟨w.heap.size + 1, 0, none⟩))
    (hq : a.tmps.getD q undef = .int .i64 n) (hd : a.defers = []) (hc : l.length ≤ c) (hF : Kd.F k38 W (fun k => w.heap.size + 2 ≤ k) A l.length l) (x : TyR) (hx : x = (⟨k, t, s2, s3, l⟩, n, da, dc)) :
    bodyPost Tryd.prog fn (OutR x w) .ret a (((((((W.setCell ⟨w.heap.size, 0, none⟩ (.int .i64 k)).setCell ⟨w.heap.size, 1, none⟩ (.int .i64 t)).setCell ⟨w.heap.size, 2, none⟩ (.string s2)).setCell ⟨w.heap.size, 3, none⟩ (.string s3)).setCell ⟨w.heap.size, 4, none⟩ (.slice A l.length c)).setCell ⟨w.heap.size + 1, 0, none⟩ (.int .i64 da)).setCell ⟨w.heap.size + 1, 1, none⟩ (.int .i64 dc)) := by
  subst hx
  have hR := set5 (.int .i64 k) (.int .i64 t) (.string s2) (.string s3) (.slice A l.length c) R1
  have hS : (((((W.setCell ⟨w.heap.size, 0, none⟩ (.int .i64 k)).setCell ⟨w.heap.size, 1, none⟩ (.int .i64 t)).setCell ⟨w.heap.size, 2, none⟩ (.string s2)).setCell ⟨w.heap.size, 3, none⟩ (.string s3)).setCell ⟨w.heap.size, 4, none⟩ (.slice A l.length c)).heap[w.heap.size + 1]? = some (.cells #[d0, d1] 25 (0, 0)) := by
    rw [blk_far _ _ _ _ _ (by omega), blk_far _ _ _ _ _ (by omega), blk_far _ _ _ _ _ (by omega), blk_far _ _ _ _ _ (by omega), blk_far _ _ _ _ _ (by omega)]
    exact S1
  have hB := bel_put (bel_put (bel_put (bel_put (bel_put HB w.heap.size 0 (.int .i64 k) (Nat.le_refl _)) w.heap.size 1 (.int .i64 t) (Nat.le_refl _)) w.heap.size 2 (.string s2) (Nat.le_refl _)) w.heap.size 3 (.string s3) (Nat.le_refl _)) w.heap.size 4 (.slice A l.length c) (Nat.le_refl _)
  have hG := Kd.F_far (Kd.F_far (Kd.F_far (Kd.F_far (Kd.F_far hF (p := ⟨w.heap.size, 0, none⟩) (fun k h => by simp only; omega) (.int .i64 k)) (p := ⟨w.heap.size, 1, none⟩) (fun k h => by simp only; omega) (.int .i64 t)) (p := ⟨w.heap.size, 2, none⟩) (fun k h => by simp only; omega) (.string s2)) (p := ⟨w.heap.size, 3, none⟩) (fun k h => by simp only; omega) (.string s3)) (p := ⟨w.heap.size, 4, none⟩) (fun k h => by simp only; omega) (.slice A l.length c)
  generalize ((((W.setCell ⟨w.heap.size, 0, none⟩ (.int .i64 k)).setCell ⟨w.heap.size, 1, none⟩ (.int .i64 t)).setCell ⟨w.heap.size, 2, none⟩ (.string s2)).setCell ⟨w.heap.size, 3, none⟩ (.string s3)).setCell ⟨w.heap.size, 4, none⟩ (.slice A l.length c) = V at *
  refine ty_end hr ?_ (set2 (.int .i64 da) (.int .i64 dc) hS) hp hg hq hd ⟨A, c, rfl, hc, ?_, ?_⟩
  · exact (blk_far _ _ _ _ _ (by omega)).trans ((blk_far _ _ _ _ _ (by omega)).trans hR)
  · exact Kd.F_mono (Kd.F_far (Kd.F_far hG (p := ⟨w.heap.size + 1, 0, none⟩) (fun k h => by simp only; omega) (.int .i64 da)) (p := ⟨w.heap.size + 1, 1, none⟩) (fun k h => by simp only; omega) (.int .i64 dc)) (fun k h => Nat.le_trans (Nat.le_add_right _ _) h)
  · exact bel_put (bel_put hB _ _ _ (by omega)) _ _ _ (by omega)
theorem fails_c (t : S31) (c : Int) (w : World) : Calls Tryd.prog 33 #[tokV t, .int .i64 c] w fun e W => ∃ A m, e = .returned (.tuple #[.agg #[.int .i64 0, .int .i64 0, .string ⟨#[]⟩, .string ⟨#[]⟩, .slice A 0 m], .int .i64 0, .agg #[.int .i64 t.f1, .int .i64 c]]) ∧ Below w.heap.size w W :=
  (fails_any t c w).mono fun e W h => by
    obtain ⟨A, m, h1, _, _, h2⟩ := h
    exact ⟨A, m, h1, h2⟩
theorem F_nil' (W : World) (ok : Nat → Prop) (A : Option Addr) : Kd.F k38 W ok A ([] : List S38).length [] := fun W' _ => k38_nil W' A
theorem ne_list {x y : ByteArray} (h : ¬ x = y) : ¬ x.toList = y.toList := fun hh => h (ba_ext (by rw [ByteArray.toList_eq, ByteArray.toList_eq] at hh; exact hh))
end Go.Proofs.YtlmggfbpdciioaaDoor
