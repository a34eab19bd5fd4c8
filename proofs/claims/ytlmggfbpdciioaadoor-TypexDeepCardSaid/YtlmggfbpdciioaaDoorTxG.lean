/- typex: the document's deep and Parse. typex: the document's Parse. -/
import Derived.Test.YtlmggfbpdciioaaDoorTxE
namespace Go.Proofs.YtlmggfbpdciioaaDoor
open Go.RowKit PRef Go.Proofs.YtlmggfbpdciioaaDoorW.PrintWords
set_option linter.unusedVariables false
set_option linter.unusedSimpArgs false

theorem H_tok {A : Option Addr} {c : Nat} {L : List S31} (hl : L.length ≤ 140737488351232) (hc : L.length ≤ c) {w : World} (hC : Kd.C k31 w A L.length L) (x : Int) (t : S31) (ht : tokP L x = t) :
    Hid (∀ w', Below w.heap.size w w' → Calls Tryd.prog 34 #[.slice A L.length c, .int .i64 x] w' fun e w'' => e = .returned (.agg #[.int .i64 t.f0, .int .i64 t.f1, .int .i64 t.f2, .string t.f3]) ∧ Below w'.heap.size w' w'') :=
  Lib.hid (fun w' hb => by
    have := token34 A c L x (by omega) w' (Kd.C_below hC hb) hc
    rw [ht] at this
    exact this)
theorem H_is (t : S31) (s : ByteArray) (b : Bool) (h : isP t s = b) :
    Hid (∀ w', Calls Tryd.prog 46 #[.agg #[.int .i64 t.f0, .int .i64 t.f1, .int .i64 t.f2, .string t.f3], .int .i64 4, .string s] w' fun e w'' => e = .returned (.bool b) ∧ Below w'.heap.size w' w'') :=
  Lib.hid (fun w' => by subst h; exact is46 t s w')
theorem H_fail (t : S31) (k : Int) :
    Hid (∀ w', Calls Tryd.prog 33 #[.agg #[.int .i64 t.f0, .int .i64 t.f1, .int .i64 t.f2, .string t.f3], .int .i64 k] w' fun e W => ∃ A m, e = .returned (.tuple #[.agg #[.int .i64 0, .int .i64 0, .string ⟨#[]⟩, .string ⟨#[]⟩, .slice A 0 m], .int .i64 0, .agg #[.int .i64 t.f1, .int .i64 k]]) ∧ Below w'.heap.size w' W) :=
  Lib.hid (fun w' => fails_c t k w')

theorem deep_leaf (A : Option Addr) (c : Nat) (L : List S31) (hl : L.length ≤ 140737488351232) (hc : L.length ≤ c) (a l : Int) (h0 : 0 ≤ a) (h1 : a ≤ 140737488351233) (w : World) (hC : Kd.C k31 w A L.length L) (hop : isP (tokP L a) bOpen = false) :
    Calls Tryd.prog 35 #[.slice A L.length c, .int .i64 a, .int .i64 l] w (OutR (leafP L a) w) := by
  have HA := H_tok hl hc hC a _ rfl
  have HB := H_tok hl hc hC (a + 1) _ rfl
  have HC := H_tok hl hc hC (a + 2) _ rfl
  unfold leafP
  generalize tokP L a = t at *
  generalize tokP L (a + 1) = u at *
  generalize tokP L (a + 2) = v at *
  have HI := H_is t _ _ hop
  have HF := H_fail t 5
  have HG := H_fail v 5
  obtain ⟨t0, t1, t2, t3⟩ := t
  dsimp only at HA HI HF ⊢
  by_cases n5 : t0 = 5
  · subst n5
    rw [if_pos rfl]
    by_cases m1 : t3 = bInt
    · rw [if_pos m1]
      subst m1
      exact deep_int A c L a l hl h0 h1 w t1 t2 HA
    · rw [if_neg m1]
      by_cases m2 : t3 = bBool
      · rw [if_pos m2]
        subst m2
        exact deep_bool A c L a l hl h0 h1 w t1 t2 HA
      · rw [if_neg m2]
        by_cases m3 : t3 = bText
        · rw [if_pos m3]
          subst m3
          exact deep_text A c L a l hl h0 h1 w t1 t2 HA
        · rw [if_neg m3]
          exact deep_word A c L a l hl h0 h1 w t1 t2 t3 m1 m2 m3 HA HI HF
  · rw [if_neg n5]
    by_cases n1 : t0 = 1
    · subst n1
      rw [if_pos rfl]
      cases hp : isP u bDot with
      | true =>
        rw [if_pos rfl]
        have HP := H_is u _ _ hp
        by_cases nv : v.f0 = 1
        · rw [if_pos nv]
          rw [nv] at HC
          exact deep_pair A c L a l hl h0 h1 w t1 t2 t3 u.f0 u.f1 u.f2 u.f3 v.f1 v.f2 v.f3 HA HB HP HC
        · rw [if_neg nv]
          exact deep_half A c L a l hl h0 h1 w t1 t2 t3 u.f0 u.f1 u.f2 u.f3 v.f0 v.f1 v.f2 v.f3 nv HA HB HP HC HG
      | false =>
        rw [if_neg (by simp)]
        have HP := H_is u _ _ hp
        exact deep_name A c L a l hl h0 h1 w t1 t2 t3 u.f0 u.f1 u.f2 u.f3 HA HB HP
    · rw [if_neg n1]
      exact deep_other A c L a l hl h0 h1 w t0 t1 t2 t3 n5 n1 HA HI HF

theorem open_in {L : List S31} {a : Int} (h : isP (tokP L a) bOpen = true) : 0 ≤ a ∧ a < L.length ∧ (tokP L a).f0 = 4 := by
  have h4 : (tokP L a).f0 = 4 := (of_decide_eq_true h).1
  by_cases hr : 0 ≤ a ∧ a < L.length
  · exact ⟨hr.1, hr.2, h4⟩
  · rw [show tokP L a = ⟨0, endP L, endP L, ⟨#[]⟩⟩ from if_neg hr] at h4
    exact absurd h4 (by show ¬ (0 : Int) = 4; decide)

theorem deep_any (A : Option Addr) (c : Nat) (L : List S31) (hl : L.length ≤ 140737488351232) (hc : L.length ≤ c) : ∀ (d : Nat), d ≤ 30 → ∀ (a l : Int), l = 30 - (d : Int) → 0 ≤ a → a ≤ 140737488351233 → ∀ w : World, Kd.C k31 w A L.length L →
    Calls Tryd.prog 35 #[.slice A L.length c, .int .i64 a, .int .i64 l] w (OutR (deepP L d a) w) := by
  intro d
  induction d with
  | zero =>
    intro _ a l hla h0 h1 w hC
    unfold deepP
    cases ho : isP (tokP L a) bOpen with
    | false =>
      rw [if_neg (by simp)]
      exact deep_leaf A c L hl hc a l h0 h1 w hC ho
    | true =>
      rw [if_pos rfl]
      have h4 := (open_in ho).2.2
      exact deep_deep A c L a l hl h0 h1 w _ _ _ _ (by rw [h4]; decide) (by rw [h4]; decide) (by omega) (H_tok hl hc hC a _ rfl) (H_is _ _ _ ho) (H_fail _ 6)
  | succ d ih =>
    intro hd a l hla h0 h1 w hC
    unfold deepP
    cases ho : isP (tokP L a) bOpen with
    | false =>
      rw [if_neg (by simp)]
      exact deep_leaf A c L hl hc a l h0 h1 w hC ho
    | true =>
      rw [if_pos rfl]
      obtain ⟨_, hlt, h4⟩ := open_in ho
      have n5 : ¬ (tokP L a).f0 = 5 := by rw [h4]; decide
      have n1 : ¬ (tokP L a).f0 = 1 := by rw [h4]; decide
      cases hs : isP (tokP L (a + 1)) bShut with
      | false =>
        rw [if_neg (by simp)]
        exact deep_unshut A c L a l hl h0 h1 w _ _ _ _ _ _ _ _ n5 n1 (by omega) (by omega) (H_tok hl hc hC a _ rfl) (H_is _ _ _ ho) (H_tok hl hc hC (a + 1) _ rfl) (H_is _ _ _ hs) (H_fail _ 5)
      | true =>
        rw [if_pos rfl]
        have H5 : Hid (∀ w', Below w.heap.size w w' → Calls Tryd.prog 35 #[.slice A L.length c, .int .i64 (a + 2), .int .i64 (l + 1)] w' (OutR (deepP L d (a + 2)) w')) :=
          Lib.hid (fun w' hb => ih (by omega) (a + 2) (l + 1) (by omega) (by omega) (by omega) w' (Kd.C_below hC hb))
        rcases hr : deepP L d (a + 2) with ⟨x, n, da, dc⟩
        rw [hr] at H5
        by_cases hz : dc = 0
        · subst hz
          exact deep_list A c L a l hl h0 h1 w _ _ _ _ _ _ _ _ x n da n5 n1 (by omega) (by omega) (H_tok hl hc hC a _ rfl) (H_is _ _ _ ho) (H_tok hl hc hC (a + 1) _ rfl) (H_is _ _ _ hs) H5
        · rw [show wrapR (tokP L a).f1 (x, n, da, dc) = (z38, 0, da, dc) from if_neg hz]
          exact deep_listbad A c L a l hl h0 h1 w _ _ _ _ _ _ _ _ x n da dc hz n5 n1 (by omega) (by omega) (H_tok hl hc hC a _ rfl) (H_is _ _ _ ho) (H_tok hl hc hC (a + 1) _ rfl) (H_is _ _ _ hs) H5
end Go.Proofs.YtlmggfbpdciioaaDoor
namespace Go.Proofs.YtlmggfbpdciioaaDoor
open Go.RowKit PRef Go.Proofs.YtlmggfbpdciioaaDoorW.PrintWords
set_option linter.unusedVariables false
set_option linter.unusedSimpArgs false

set_option maxRecDepth 100000 in
set_option maxHeartbeats 4000000 in
theorem rparse_any (A : Option Addr) (c : Nat) (L : List S31) (hl : L.length ≤ 140737488351232) (hc : L.length ≤ c) (a : Int) (w : World) (hC : Kd.C k31 w A L.length L) :
    Calls Tryd.prog 25 #[.slice A L.length c, .int .i64 a] w (OutR (parseP L a) w) := by
  have HB := Lib.hid (bel_alloc (bel_alloc (Below.refl w.heap.size w) box38) box25)
  have R := Lib.hid (blk_alloc (blk_new w box38) box25)
  have S := Lib.hid (blk_new1 w box38 box25)
  by_cases hn : a < 0
  · have HA := H_tok hl hc hC a _ rfl
    rw [show parseP L a = failP (tokP L a) 5 from if_pos (.inl hn)]
    have HF := H_fail (tokP L a) 5
    generalize tokP L a = t at *
    clear hC hc hl
    go_enter Tryd.func25, Tryd.ntmps25
    go_wp2_with (fail)
    refine (HA.out _ HB.out).mono ?_
    rintro e1 w1 ⟨rfl, hb⟩
    replace HB := Lib.hid (bel_trans HB.out hb)
    replace R := Lib.hid (blk_later hb R.out)
    replace S := Lib.hid (blk_later hb S.out)
    clear hb
    go_wp2_with (fail)
    refine (HF.out _).mono ?_
    rintro e2 w2 ⟨A', m', rfl, hb⟩
    replace HB := Lib.hid (bel_trans HB.out hb)
    replace R := Lib.hid (blk_later hb R.out)
    replace S := Lib.hid (blk_later hb S.out)
    clear hb
    have R1 := R.out
    have S1 := S.out
    have r0 := (blk_cell R1 0).trans rfl
    have r1 := (blk_cell R1 1).trans rfl
    have r2 := (blk_cell R1 2).trans rfl
    have r3 := (blk_cell R1 3).trans rfl
    have r4 := (blk_cell R1 4).trans rfl
    have f0 := blk_free R1 0
    have f1 := blk_free R1 1
    have f2 := blk_free R1 2
    have f3 := blk_free R1 3
    have f4 := blk_free R1 4
    have s0 := (blk_cell S1 0).trans rfl
    have s1 := (blk_cell S1 1).trans rfl
    have g0 := blk_free S1 0
    have g1 := blk_free S1 1
    clear R1 S1
    go_wp2_with (fail)
    exact out_end rfl R.out S.out HB.out rfl rfl rfl rfl (Nat.zero_le _) (F_nil' _ _ _) _ rfl
  · by_cases hg : (L.length : Int) < a
    · have HA := H_tok hl hc hC a _ rfl
      rw [show parseP L a = failP (tokP L a) 5 from if_pos (.inr hg)]
      have HF := H_fail (tokP L a) 5
      generalize tokP L a = t at *
      clear hC hc hl
      go_enter Tryd.func25, Tryd.ntmps25
      go_wp2_with (fail)
      refine (HA.out _ HB.out).mono ?_
      rintro e1 w1 ⟨rfl, hb⟩
      replace HB := Lib.hid (bel_trans HB.out hb)
      replace R := Lib.hid (blk_later hb R.out)
      replace S := Lib.hid (blk_later hb S.out)
      clear hb
      go_wp2_with (fail)
      refine (HF.out _).mono ?_
      rintro e2 w2 ⟨A', m', rfl, hb⟩
      replace HB := Lib.hid (bel_trans HB.out hb)
      replace R := Lib.hid (blk_later hb R.out)
      replace S := Lib.hid (blk_later hb S.out)
      clear hb
      have R1 := R.out
      have S1 := S.out
      have r0 := (blk_cell R1 0).trans rfl
      have r1 := (blk_cell R1 1).trans rfl
      have r2 := (blk_cell R1 2).trans rfl
      have r3 := (blk_cell R1 3).trans rfl
      have r4 := (blk_cell R1 4).trans rfl
      have f0 := blk_free R1 0
      have f1 := blk_free R1 1
      have f2 := blk_free R1 2
      have f3 := blk_free R1 3
      have f4 := blk_free R1 4
      have s0 := (blk_cell S1 0).trans rfl
      have s1 := (blk_cell S1 1).trans rfl
      have g0 := blk_free S1 0
      have g1 := blk_free S1 1
      clear R1 S1
      go_wp2_with (fail)
      exact out_end rfl R.out S.out HB.out rfl rfl rfl rfl (Nat.zero_le _) (F_nil' _ _ _) _ rfl
    · have HD : Hid (∀ w', Below w.heap.size w w' → Calls Tryd.prog 35 #[.slice A L.length c, .int .i64 a, .int .i64 0] w' (OutR (deepP L 30 a) w')) :=
        Lib.hid (fun w' hb => deep_any A c L hl hc 30 (Nat.le_refl _) a 0 (by omega) (by omega) (by omega) w' (Kd.C_below hC hb))
      rw [show parseP L a = deepP L 30 a from if_neg (by omega)]
      generalize deepP L 30 a = z at *
      obtain ⟨x, n, da, dc⟩ := z
      clear hC hc hl
      go_enter Tryd.func25, Tryd.ntmps25
      go_wp2_with (fail)
      refine (HD.out _ HB.out).mono ?_
      rintro e1 w1 ⟨A', m', rfl, hm, hF, hb⟩
      replace HB := Lib.hid (bel_trans HB.out hb)
      replace R := Lib.hid (blk_later hb R.out)
      replace S := Lib.hid (blk_later hb S.out)
      have hF2 : Kd.F k38 w1 (fun k => w.heap.size + 2 ≤ k) A' x.f4.length x.f4 := Kd.F_mono hF (fun k hk => by have hk : ((w.alloc box38).alloc box25).heap.size ≤ k := hk; rw [World.size_alloc, World.size_alloc] at hk; show w.heap.size + 2 ≤ k; omega)
      have HF := Lib.hid hF2
      have HM := Lib.hid hm
      clear hF hF2 hm hb
      have R1 := R.out
      have S1 := S.out
      have r0 := (blk_cell R1 0).trans rfl
      have r1 := (blk_cell R1 1).trans rfl
      have r2 := (blk_cell R1 2).trans rfl
      have r3 := (blk_cell R1 3).trans rfl
      have r4 := (blk_cell R1 4).trans rfl
      have f0 := blk_free R1 0
      have f1 := blk_free R1 1
      have f2 := blk_free R1 2
      have f3 := blk_free R1 3
      have f4 := blk_free R1 4
      have s0 := (blk_cell S1 0).trans rfl
      have s1 := (blk_cell S1 1).trans rfl
      have g0 := blk_free S1 0
      have g1 := blk_free S1 1
      clear R1 S1
      go_wp2_with (fail)
      exact out_end rfl R.out S.out HB.out rfl rfl rfl rfl HM.out HF.out _ (by cases x; rfl)
end Go.Proofs.YtlmggfbpdciioaaDoor
