/- The walk of the document's Unpack. -/
import Derived.Test.YtnafeapbglflnaaDkK
namespace Go.Proofs.Ytnafeapbglflnaa
open Go.RowKit PRef Go.Proofs.YtnafeapbglflnaaW.PrintWords
set_option linter.unusedVariables false

abbrev unpackBad : List S45 × Bool × ByteArray × Int := ([], false, ⟨#[]⟩, 170)
def unpackT (d : List S45 × ByteArray × Bool) : List S45 × Bool × ByteArray × Int :=
  if (rtextF (flagF d.2.1 d.2.2).2.1 (flagF d.2.1 d.2.2).2.2).2.2 = true ∧ (rtextF (flagF d.2.1 d.2.2).2.1 (flagF d.2.1 d.2.2).2.2).2.1.toList.isEmpty = true ∧ ((flagF d.2.1 d.2.2).1 || (rtextF (flagF d.2.1 d.2.2).2.1 (flagF d.2.1 d.2.2).2.2).1.toList.isEmpty) = true then (d.1, (flagF d.2.1 d.2.2).1, (rtextF (flagF d.2.1 d.2.2).2.1 (flagF d.2.1 d.2.2).2.2).1, 0) else unpackBad
theorem unpackF_T (s : ByteArray) : unpackF s = unpackT (diagsF (manyF s true).1 (manyF s true).2.1 (manyF s true).2.2 []) := rfl
theorem diagsF_false (b : ByteArray) (acc : List S45) : ∀ n, (diagsF n b false acc).2.2 = false
  | 0 => rfl
  | n + 1 => by unfold diagsF; rw [if_neg (by simp)]
theorem unpackT_false (d : List S45 × ByteArray × Bool) (h : d.2.2 = false) : unpackT d = unpackBad := by
  unfold unpackT
  rw [h, flagF_false, rtextF_false', if_neg (by simp)]

/-- What is known of Unpack's answer behind k diagnostics. -/
def UnpackQ (B : ByteArray) (m k a : Nat) (lost : Bool) (acc : List S45) : Prop :=
  (lost = true → unpackF B = unpackBad) ∧ (lost = false → unpackF B = unpackT (diagsF (m - k) (B.extract a B.size) true acc))

theorem unpackQ_start (B : ByteArray) (m a2 : Nat) (l2 : Bool) (h2 : RelQ B 0 false manyF m a2 l2) : UnpackQ B m 0 a2 l2 [] := by
  have e0 : B.extract 0 B.size = B := ByteArray.extract_zero_size
  obtain ⟨_, q1, q2, q3⟩ := h2
  rw [e0] at q2 q3
  constructor
  · rintro rfl
    rw [unpackF_T, q2 rfl rfl]
    exact unpackT_false _ (diagsF_false _ _ _)
  · rintro rfl
    rw [unpackF_T, q3 rfl rfl]
    rfl

theorem unpackQ_step (B : ByteArray) (m k a : Nat) (acc : List S45) (hk : k < m) (h : UnpackQ B m k a false acc) (x0 x1 : Nat) (a1 a2 : Nat) (l1 l2 : Bool) (h1 : RelQ B a false numF x0 a1 l1) (h2 : RelQ B a1 l1 numF x1 a2 l2) :
    UnpackQ B m (k + 1) a2 l2 (acc ++ [⟨x0, x1⟩]) := by
  obtain ⟨_, e⟩ := h
  have e := e rfl
  obtain ⟨q, hq⟩ : ∃ q, m - k = q + 1 := ⟨m - k - 1, by omega⟩
  have hq2 : m - (k + 1) = q := by omega
  rw [hq] at e
  unfold UnpackQ
  rw [hq2]
  obtain ⟨_, p1, p2, p3⟩ := h1
  obtain ⟨_, q1, q2, q3⟩ := h2
  have hd : diagsF (q + 1) (B.extract a B.size) true acc = diagsF q (numF (numF (B.extract a B.size) true).2.1 (numF (B.extract a B.size) true).2.2).2.1 (numF (numF (B.extract a B.size) true).2.1 (numF (B.extract a B.size) true).2.2).2.2 (acc ++ [⟨(numF (B.extract a B.size) true).1, (numF (numF (B.extract a B.size) true).2.1 (numF (B.extract a B.size) true).2.2).1⟩]) := rfl
  rw [hd] at e
  cases l2 with
  | true =>
    refine ⟨fun _ => ?_, (fun h => by cases h)⟩
    have h3 : (numF (numF (B.extract a B.size) true).2.1 (numF (B.extract a B.size) true).2.2).2.2 = false := by
      cases l1 with
      | true => rw [p2 rfl rfl, numF_false]
      | false => rw [p3 rfl rfl]; exact q2 rfl rfl
    rw [e, h3]
    exact unpackT_false _ (diagsF_false _ _ _)
  | false =>
    obtain rfl : l1 = false := by cases l1; rfl; exact absurd (q1 rfl) (by simp)
    refine ⟨(fun h => by cases h), fun _ => ?_⟩
    rw [e, p3 rfl rfl]
    simp only
    rw [q3 rfl rfl]

theorem unpackQ_end (B : ByteArray) (m k a : Nat) (lost : Bool) (acc : List S45) (hk : lost = true ∨ k = m) (h : UnpackQ B m k a lost acc) (g : Bool) (t : ByteArray) (a1 a2 : Nat) (l1 l2 : Bool) (h1 : RelQ B a lost flagF g a1 l1) (h2 : RelQ B a1 l1 rtextF t a2 l2) :
    (l2 = true → unpackF B = unpackBad) ∧ (l2 = false → unpackF B = if (B.extract a2 B.size).toList.isEmpty = true ∧ (g || t.toList.isEmpty) = true then (acc, g, t, 0) else unpackBad) := by
  obtain ⟨e1, e2⟩ := h
  obtain ⟨_, p1, p2, p3⟩ := h1
  obtain ⟨_, q1, q2, q3⟩ := h2
  cases lost with
  | true =>
    have hb := e1 rfl
    exact ⟨fun _ => hb, fun h => absurd (q1 (p1 rfl)) (by rw [h]; simp)⟩
  | false =>
    obtain rfl : k = m := by rcases hk with h | h; cases h; exact h
    have e := e2 rfl
    rw [Nat.sub_self] at e
    have e : unpackF B = unpackT (acc, B.extract a B.size, true) := e
    cases l2 with
    | true =>
      refine ⟨fun _ => ?_, (fun h => by cases h)⟩
      rw [e]
      unfold unpackT
      rw [if_neg]
      rintro ⟨h, _⟩
      have h3 : (rtextF (flagF (B.extract a B.size) true).2.1 (flagF (B.extract a B.size) true).2.2).2.2 = false := by
        cases l1 with
        | true => rw [p2 rfl rfl, rtextF_false']
        | false => rw [p3 rfl rfl]; exact q2 rfl rfl
      rw [show (acc, B.extract a B.size, true).2.1 = B.extract a B.size from rfl] at h
      have h : (rtextF (flagF (B.extract a B.size) true).2.1 (flagF (B.extract a B.size) true).2.2).2.2 = true := h
      rw [h3] at h
      cases h
    | false =>
      obtain rfl : l1 = false := by cases l1; rfl; exact absurd (q1 rfl) (by simp)
      refine ⟨(fun h => by cases h), fun _ => ?_⟩
      rw [e]
      unfold unpackT
      simp only
      rw [p3 rfl rfl]
      simp only
      rw [q3 rfl rfl]
      simp

theorem qunpack_end {R : Ending → World → Prop} {a : Act} {w7 : World} {h : Nat} {tv v0 v1 v2 x0 x1 x2 : Value} (hR : w7.heap[h]? = some (.cells #[x0, x1, x2] 34 (0, 0))) (hp : a.tmps.getD 2 undef = .pointer (some ⟨h, 0, none⟩)) (hd : a.defers = [])
    (hQ : R (.returned (.tuple #[.agg #[v0, v1, v2], a.tmps.getD 3 undef])) ((((w7.setCell ⟨h + 1 + 1, 2, none⟩ tv).setCell ⟨h, 0, none⟩ v0).setCell ⟨h, 1, none⟩ v1).setCell ⟨h, 2, none⟩ v2)) :
    bodyPost Try.prog Try.f19 R .ret a ((((w7.setCell ⟨h + 1 + 1, 2, none⟩ tv).setCell ⟨h, 0, none⟩ v0).setCell ⟨h, 1, none⟩ v1).setCell ⟨h, 2, none⟩ v2) := by
  have h1 := (blk_far w7 (h + 1 + 1) 2 h tv (by omega)).trans hR
  have h2 := blk_set (blk_set (blk_set h1 0 v0) 1 v1) 2 v2
  refine bodyPost_ret ((results_cell_tmp (p := 2) (u := 3) (ty := 34) rfl a.tmps Try.prog _).trans ?_) hd hQ
  rw [hp]
  have h3 := run_loadVar_row (P := Try.prog) _ h 34 34 #[v0, v1, v2] (0, 0) _ (h2.trans rfl) Try.underlying34 rfl (info34.trans rfl)
  simp only [asAddr, Sem.run_pure, Result.andThen_ok, h3]

set_option maxRecDepth 100000 in
set_option maxHeartbeats 4000000 in
theorem qunpack_any (s : ByteArray) (w : World) (hs : s.size ≤ 100000) :
    Calls Try.prog 19 #[.string s] w fun e w' => ∃ A c, e = .returned (.tuple #[.agg #[.slice A (unpackF s).1.length c, .bool (unpackF s).2.1, .string (unpackF s).2.2.1], .int .i64 (unpackF s).2.2.2]) ∧ (unpackF s).1.length ≤ c ∧ Kd.C k45 w' A (unpackF s).1.length (unpackF s).1 ∧ Below w.heap.size w w' := by
  obtain ⟨i0, hi, hz0, hz1, hz2⟩ := info_parts info45
  have HS := Lib.hid hs
  obtain ⟨m, a2, l2, hm, h2, hc2⟩ := many_c s hs 0 (Nat.zero_le _) false
  have HST := Lib.hid (unpackQ_start s m a2 l2 h2)
  have HA2 := Lib.hid h2.1
  have HM := Lib.hid hm
  have H0 := Lib.hid (show (((w.alloc (.cells #[.slice none 0 0, .bool false, .string ⟨#[]⟩] 34)).alloc (.cells #[.string s, .int .i64 0, .bool false] 65)).alloc (.cells #[.slice none 0 0, .bool false, .string ⟨#[]⟩] 34)).heap[w.heap.size]? = some (.cells #[.slice none 0 0, .bool false, .string ⟨#[]⟩] 34 (0, 0)) from blk_alloc (blk_alloc (blk_new w _) _) _)
  have H1 : Hid (IsS65 w (((w.alloc (.cells #[.slice none 0 0, .bool false, .string ⟨#[]⟩] 34)).alloc (.cells #[.string s, .int .i64 0, .bool false] 65)).alloc (.cells #[.slice none 0 0, .bool false, .string ⟨#[]⟩] 34)) (w.heap.size + 1) s (0 : Nat) false) := Lib.hid ⟨blk_alloc (by simpa using blk_new (w.alloc (.cells #[.slice none 0 0, .bool false, .string ⟨#[]⟩] 34)) (.cells #[.string s, .int .i64 0, .bool false] 65)) _, by omega⟩
  have H2 := Lib.hid (show (((w.alloc (.cells #[.slice none 0 0, .bool false, .string ⟨#[]⟩] 34)).alloc (.cells #[.string s, .int .i64 0, .bool false] 65)).alloc (.cells #[.slice none 0 0, .bool false, .string ⟨#[]⟩] 34)).heap[w.heap.size + 1 + 1]? = some (.cells #[.slice none 0 0, .bool false, .string ⟨#[]⟩] 34 (0, 0)) from by simpa using blk_new ((w.alloc (.cells #[.slice none 0 0, .bool false, .string ⟨#[]⟩] 34)).alloc (.cells #[.string s, .int .i64 0, .bool false] 65)) (.cells #[.slice none 0 0, .bool false, .string ⟨#[]⟩] 34))
  have HB0 := Lib.hid (bel_alloc (bel_alloc (bel_alloc (Below.refl w.heap.size w) (.cells #[.slice none 0 0, .bool false, .string ⟨#[]⟩] 34)) (.cells #[.string s, .int .i64 0, .bool false] 65)) (.cells #[.slice none 0 0, .bool false, .string ⟨#[]⟩] 34))
  have HC1 := Lib.hid (hc2 w _ (w.heap.size + 1) H1.out HB0.out)
  clear h2 hc2 hs hm
  go_enter Try.func19, Try.ntmps19
  go_wp2_with (fail)
  refine HC1.out.mono ?_
  rintro e w1 ⟨rfl, hI1, hb1, hk1⟩
  have HI1 := Lib.hid hI1
  have HB1 := Lib.hid hb1
  have HR1 := Lib.hid (blk_keepBut H0.out hk1 (by omega))
  have HO1 := Lib.hid (blk_keepBut H2.out hk1 (by omega))
  clear hI1 hb1 hk1 HC1 H0 H1 H2 HB0
  have hm' := HM.out
  go_wp2_with (fail)
  go_loopw [7] (fun iv wr => ∃ (k : Nat) (a : Nat) (lost : Bool) (acc : List S45) (dv : Value), k ≤ m ∧ iv = .int .i64 k ∧ a ≤ s.size ∧ Hid (IsS65 w wr (w.heap.size + 1) s a lost) ∧ Hid (Below w.heap.size w wr) ∧ Hid (wr.heap[w.heap.size + 1 + 1]? = some (.cells #[dv, .bool false, .string ⟨#[]⟩] 34 (0, 0))) ∧ Hid (wr.heap[w.heap.size]? = some (.cells #[.slice none 0 0, .bool false, .string ⟨#[]⟩] 34 (0, 0))) ∧ Hid (wr.ownsRow (w.heap.size + 1 + 1 + 1) 45 2 dv acc.length (acc.flatMap diagCs)) ∧ acc.length ≤ k ∧ Hid (UnpackQ s m k a lost acc)) (fun iv _ => m - (intOf iv).toNat)
  case atStart => exact ⟨0, a2, l2, [], .slice none 0 0, Nat.zero_le _, rfl, HA2.out, HI1, HB1, HO1, HR1, Lib.hid (World.ownsRow_nil _ _ _ _), Nat.zero_le _, HST⟩
  case round =>
    obtain ⟨k, a, lost, acc, dv, hk, rfl, ha, HI, HB, HO, HR, HOW, hacc, HQ⟩ := hrel
    clear HI1 HB1 HR1 HO1 HST HA2
    have q2 := cellS65_2 HI.out.1
    by_cases hgo : k < m ∧ lost = false
    · obtain ⟨hlt, rfl⟩ := hgo
      obtain ⟨x0, b1, g1, n0, r1, hd1⟩ := num_c s HS.out a ha false
      obtain ⟨x1, b2, g2, n1, r2, hd2⟩ := num_c s HS.out b1 r1.1 g1
      have hb2 := r2.1
      have HN := Lib.hid (unpackQ_step s m k a acc hlt HQ.out x0 x1 b1 b2 g1 g2 r1 r2)
      have HD1 := Lib.hid (hd1 w wr (w.heap.size + 1) HI.out HB.out)
      have HD2 := Lib.hid hd2
      clear r1 r2 hd1 hd2 HQ
      go_wp2_with (fail)
      refine HD1.out.mono ?_
      rintro e w3 ⟨rfl, hI3, hb3, hk3⟩
      have HI4 := Lib.hid (hI3.alloc (.cells #[.int .i64 x0, .int .i64 0] 45))
      have HB4 := Lib.hid (bel_alloc hb3 (.cells #[.int .i64 x0, .int .i64 0] 45))
      have HN4 := Lib.hid (blk_new w3 (.cells #[.int .i64 x0, .int .i64 0] 45))
      have ho3 := blk_keepBut HO.out hk3 (by omega)
      have HNE : Hid (w.heap.size + 1 + 1 < w3.heap.size) := Lib.hid (blk_lt ho3)
      have HO4 := Lib.hid (blk_alloc ho3 (.cells #[.int .i64 x0, .int .i64 0] 45))
      have HR4 := Lib.hid (blk_alloc (blk_keepBut HR.out hk3 (by omega)) (.cells #[.int .i64 x0, .int .i64 0] 45))
      have how3 := own_keepBut HOW.out hk3 (by omega)
      have HX : Hid (∀ k, dv.ownBlock = some k → w.heap.size + 1 + 1 + 1 ≤ k ∧ k < w3.heap.size) := Lib.hid (fun k hk => ⟨own_base how3 k hk, (how3.lt k hk).2⟩)
      have HOW4 := Lib.hid (how3.alloc (.cells #[.int .i64 x0, .int .i64 0] 45))
      clear hI3 hb3 hk3 HD1 how3 ho3 HO HR
      go_wp2_with (fail)
      refine (HD2.out w _ (w.heap.size + 1) HI4.out HB4.out).mono ?_
      rintro e w5 ⟨rfl, hI5, hb5, hk5⟩
      have hn5 := blk_keepBut HN4.out hk5 (by have := HNE.out; omega)
      have ho5 := blk_keepBut HO4.out hk5 (by omega)
      have c0 : w5.cell? ⟨w3.heap.size, 0, none⟩ = some (.int .i64 x0) := (blk_cell hn5 0).trans rfl
      have c1 : w5.cell? ⟨w3.heap.size, 1, none⟩ = some (.int .i64 0) := (blk_cell hn5 1).trans rfl
      have f1 := blk_free hn5 1
      have o0 : w5.cell? ⟨w.heap.size + 1 + 1, 0, none⟩ = some dv := (blk_cell ho5 0).trans rfl
      have fo0 := blk_free ho5 0
      have HI6 := Lib.hid (hI5.far (p := ⟨w3.heap.size, 1, none⟩) (by have := HNE.out; simp only; omega) (.int .i64 x1))
      have HB6 : Hid (Below w.heap.size w (w5.setCell ⟨w3.heap.size, 1, none⟩ (.int .i64 x1))) := Lib.hid (hb5.setCell (by have := HNE.out; simp only; omega) _)
      have HO6 := Lib.hid ((blk_far w5 w3.heap.size 1 (w.heap.size + 1 + 1) (.int .i64 x1) (by have := HNE.out; omega)).trans ho5)
      have HR6 := Lib.hid ((blk_far w5 w3.heap.size 1 w.heap.size (.int .i64 x1) (by have := HNE.out; omega)).trans (blk_keepBut HR4.out hk5 (by omega)))
      have HOW6 : Hid ((w5.setCell ⟨w3.heap.size, 1, none⟩ (.int .i64 x1)).ownsRow (w.heap.size + 1 + 1 + 1) 45 2 dv acc.length (acc.flatMap diagCs)) := Lib.hid (own_kept (own_keepBut HOW4.out hk5 (by omega)) (fun k hk => blk_far _ _ _ _ _ (by have := HX.out k hk; omega)))
      have HNB := Lib.hid (show ((w5.setCell ⟨w3.heap.size, 1, none⟩ (.int .i64 x1)).alloc (.cells #[.int .i64 x0, .int .i64 x1] 45)).heap[w5.heap.size]? = some (.cells #[.int .i64 x0, .int .i64 x1] 45 (0, 0)) by simpa using blk_new (w5.setCell ⟨w3.heap.size, 1, none⟩ (.int .i64 x1)) (.cells #[.int .i64 x0, .int .i64 x1] 45))
      have hlt5 := blk_lt ho5
      have hne1 : w.heap.size + 1 + 1 ≠ w3.heap.size := by have := HNE.out; omega
      have hne2 := hne1.symm
      clear hI5 hb5 hk5 hn5 ho5 HD2 HI4 HB4 HN4 HOW4 HO4 HR4
      go_wp2_with (at_builtin; refine wpList_append_own _ rfl _ _ 32 rfl (w.heap.size + 1 + 1 + 1) 45 i0 (.agg #[.int .i64 0, .int .i64 0]) 2 16 Try.underlying32 hi hz0 hz1 hz2 rfl (by decide) dv acc.length (acc.flatMap diagCs) rfl (HOW6.out.alloc _) ⟨w5.heap.size, 0, none⟩ 1 1 [.int .i64 x0, .int .i64 x1] rfl rfl (World.news_of_block HNB.out) (by simp [Value.oneCell']) (by unfold maxLen; omega) (by omega) (by simp; omega) ?_)
      intro v' w9 hown9 hg9 _
      have hI9 : IsS65 w w9 (w.heap.size + 1) s b2 g2 := ⟨(hg9.block _ (by simp; omega) (fun e => by have := HX.out _ e.symm; omega)).trans (HI6.out.alloc _).1, HI6.out.2⟩
      have hO9 := (hg9.block _ (by simp; omega) (fun e => by have := HX.out _ e.symm; omega)).trans (blk_alloc HO6.out _)
      have hR9 := (hg9.block _ (by simp; omega) (fun e => by have := HX.out _ e.symm; omega)).trans (blk_alloc HR6.out _)
      have o9 : w9.cell? ⟨w.heap.size + 1 + 1, 0, none⟩ = some dv := (blk_cell hO9 0).trans rfl
      have fo9 := blk_free hO9 0
      have HI9 := Lib.hid hI9
      have HO9 := Lib.hid hO9
      have HR9 := Lib.hid hR9
      have HB9 : Hid (Below w.heap.size w w9) := Lib.hid (Below.grown (bel_alloc HB6.out _) hg9 (by simp; omega) (fun j hj => by have := HX.out j hj; omega))
      have HOW9 : Hid (w9.ownsRow (w.heap.size + 1 + 1 + 1) 45 2 v' (acc ++ [(⟨x0, x1⟩ : S45)]).length ((acc ++ [(⟨x0, x1⟩ : S45)]).flatMap diagCs)) := Lib.hid (by simpa [diagCs] using hown9)
      obtain ⟨A9, c9, rfl, _⟩ := own_slice hown9
      clear hown9 hg9 hI9 hO9 hR9 c0 c1 f1 o0 fo0
      go_wp2_with (fail)
      go_roundw
      case rel =>
        refine ⟨k + 1, b2, g2, _, _, by omega, by go_num, hb2, Lib.hid (HI9.out.far (p := ⟨w.heap.size + 1 + 1, 0, none⟩) (by simp) _), Lib.hid (HB9.out.setCell (by simp only; omega) _), Lib.hid (by simpa using blk_set HO9.out 0 _), Lib.hid ((blk_far _ _ _ _ _ (by omega)).trans HR9.out), Lib.hid (own_kept HOW9.out (fun k hk => blk_far _ _ _ _ _ (by have := own_base HOW9.out k hk; omega))), by simp; omega, HN⟩
      case measure => simp [intOf]; omega
    · have hkc : (k < m ∧ lost = true) ∨ (k = m) := by cases lost <;> simp_all <;> omega
      have hend : lost = true ∨ k = m := by rcases hkc with ⟨_, h⟩ | h; exact .inl h; exact .inr h
      obtain ⟨gv, b1, g1, r1, hd1⟩ := flag_c s HS.out a ha lost
      obtain ⟨tv, b2, g2, r2, hd2⟩ := text_c s HS.out b1 r1.1 g1
      have hb2 := r2.1
      have HU := Lib.hid (unpackQ_end s m k a lost acc hend HQ.out gv tv b1 b2 g1 g2 r1 r2)
      have hes : (s.extract b2 s.size).toList.isEmpty = true ↔ b2 = s.size := by
        constructor
        · intro h
          have h2 : (s.extract b2 s.size).size = 0 := bytes_size h
          rw [ext_size s b2 hb2] at h2
          omega
        · intro h
          exact bytes_empty (by rw [ext_size s b2 hb2]; omega)
      have HES := Lib.hid hes
      have HC1 := Lib.hid (hd1 w wr (w.heap.size + 1) HI.out HB.out)
      have HC2 := Lib.hid hd2
      have HOWN := HOW
      clear r1 r2 hd1 hd2 HQ hgo hes hend HOW
      rcases hkc with ⟨hkc, rfl⟩ | rfl
      all_goals
        go_wp2_with (fail)
        refine HC1.out.mono ?_
        rintro e w6 ⟨rfl, hI6, hb6, hk6⟩
        have hO6 := blk_keepBut HO.out hk6 (by omega)
        have f6 := blk_free hO6 1
        have c6 : w6.cell? ⟨w.heap.size + 1 + 1, 1, none⟩ = some (.bool false) := (blk_cell hO6 1).trans rfl
        have hO6s := blk_set hO6 1 (.bool gv)
        have hR6s := (blk_far w6 (w.heap.size + 1 + 1) 1 w.heap.size (.bool gv) (by omega)).trans (blk_keepBut HR.out hk6 (by omega))
        have HO6 := Lib.hid hO6s
        have HR6 := Lib.hid hR6s
        have HI6 := Lib.hid (hI6.far (p := ⟨w.heap.size + 1 + 1, 1, none⟩) (by simp) (.bool gv))
        have hrs : w.heap.size + 1 + 1 < wr.heap.size := blk_lt HO.out
        have HB6 : Hid (Below w.heap.size w (w6.setCell ⟨w.heap.size + 1 + 1, 1, none⟩ (.bool gv))) := Lib.hid (hb6.setCell (by simp only; omega) _)
        have HW6 : Hid ((w6.setCell ⟨w.heap.size + 1 + 1, 1, none⟩ (.bool gv)).ownsRow (w.heap.size + 1 + 1 + 1) 45 2 dv acc.length (acc.flatMap diagCs)) := Lib.hid (own_kept (own_keepBut HOWN.out hk6 (by omega)) (fun g hg => blk_far _ _ _ _ _ (by have := own_base HOWN.out g hg; omega)))
        clear hI6 hb6 hk6 hO6 hO6s hR6s HC1
        go_wp2_with (fail)
        refine (HC2.out w _ (w.heap.size + 1) HI6.out HB6.out).mono ?_
        rintro e w7 ⟨rfl, hI7, hb7, hk7⟩
        have hO7 := blk_keepBut HO6.out hk7 (by omega)
        have hR7 := blk_keepBut HR6.out hk7 (by omega)
        have f7 := blk_free hO7 2
        have a0 : w7.cell? ⟨w.heap.size + 1 + 1, 0, none⟩ = some dv := (blk_cell hO7 0).trans rfl
        have a1 : w7.cell? ⟨w.heap.size + 1 + 1, 1, none⟩ = some (.bool gv) := (blk_cell hO7 1).trans rfl
        have a2 : w7.cell? ⟨w.heap.size + 1 + 1, 2, none⟩ = some (.string ⟨#[]⟩) := (blk_cell hO7 2).trans rfl
        have i1 := cellS65_1 hI7.1
        have i2 := cellS65_2 hI7.1
        have r0 : w7.cell? ⟨w.heap.size, 0, none⟩ = some (.slice none 0 0) := (blk_cell hR7 0).trans rfl
        have r1 : w7.cell? ⟨w.heap.size, 1, none⟩ = some (.bool false) := (blk_cell hR7 1).trans rfl
        have r2 : w7.cell? ⟨w.heap.size, 2, none⟩ = some (.string ⟨#[]⟩) := (blk_cell hR7 2).trans rfl
        have fr0 := blk_free hR7 0
        have fr1 := blk_free hR7 1
        have fr2 := blk_free hR7 2
        have HB7 := Lib.hid hb7
        have HR7 := Lib.hid hR7
        have HW7 := Lib.hid (own_keepBut HW6.out hk7 (by omega))
        clear hI7 hb7 hk7 hO7 hR7 HO6 HR6 HI6 HB6 HW6 HC2
        obtain ⟨A, c, rfl, hc⟩ := own_slice HW7.out
        have HC := Lib.hid hc
        clear hc
        have HERR : Hid (∀ (W : World), unpackF s = unpackBad → Below w.heap.size w W → ∃ A c, Ending.returned (.tuple #[.agg #[.slice none 0 0, .bool false, .string ⟨#[]⟩], .int .i64 170]) = .returned (.tuple #[.agg #[.slice A (unpackF s).1.length c, .bool (unpackF s).2.1, .string (unpackF s).2.2.1], .int .i64 (unpackF s).2.2.2]) ∧ (unpackF s).1.length ≤ c ∧ Kd.C k45 W A (unpackF s).1.length (unpackF s).1 ∧ Below w.heap.size w W) := by
          refine Lib.hid fun W e hB => ?_
          rw [e]
          exact ⟨none, 0, rfl, Nat.le_refl _, ⟨rfl, by simp, fun h => absurd h (by simp)⟩, hB⟩
        cases g2 with
        | true =>
          have HE := Lib.hid (HU.out.1 rfl)
          go_wp2_with (fail)
          refine qunpack_end HR7.out rfl rfl ?_
          refine HERR.out _ HE.out ?_
          repeat (first | exact HB7.out | refine Below.setCell ?_ (by simp only; omega) _)
        | false =>
          by_cases hbe : b2 = s.size
          · have HOK : Hid ((gv || tv.toList.isEmpty) = true → unpackF s = (acc, gv, tv, 0)) := Lib.hid (fun h => (HU.out.2 rfl).trans (if_pos ⟨HES.out.2 hbe, h⟩))
            have HNO : Hid ((gv || tv.toList.isEmpty) = false → unpackF s = unpackBad) := Lib.hid (fun h => (HU.out.2 rfl).trans (if_neg (by rw [h]; simp)))
            clear HES HU
            subst hbe
            cases gv with
            | true =>
              have HE := Lib.hid (HOK.out rfl)
              have HF := Lib.hid (own_kept (w' := ((((w7.setCell ⟨w.heap.size + 1 + 1, 2, none⟩ (.string tv)).setCell ⟨w.heap.size, 0, none⟩ (.slice A acc.length c)).setCell ⟨w.heap.size, 1, none⟩ (.bool true)).setCell ⟨w.heap.size, 2, none⟩ (.string tv))) HW7.out (fun g hg => by
                have h3 := own_base HW7.out g hg
                exact (blk_far _ _ _ _ _ (by omega)).trans ((blk_far _ _ _ _ _ (by omega)).trans ((blk_far _ _ _ _ _ (by omega)).trans (blk_far _ _ _ _ _ (by omega))))))
              go_wp2_with (fail)
              refine qunpack_end HR7.out rfl rfl ?_
              rw [HE.out]
              obtain ⟨A2, c2, e2, hc2, hC2⟩ := own_C (d := k45) (enc := diagCs) (fun _ => rfl) (fun x _ => k45_mk _ x) HF.out
              injection e2 with e2 _ e3
              subst e2 e3
              refine ⟨A, c, rfl, HC.out, hC2, ?_⟩
              repeat (first | exact HB7.out | refine Below.setCell ?_ (by simp only; omega) _)
            | false =>
              cases hte : tv.toList.isEmpty with
              | true =>
                have HE := Lib.hid (HOK.out hte)
                have HF := Lib.hid (own_kept (w' := ((((w7.setCell ⟨w.heap.size + 1 + 1, 2, none⟩ (.string tv)).setCell ⟨w.heap.size, 0, none⟩ (.slice A acc.length c)).setCell ⟨w.heap.size, 1, none⟩ (.bool false)).setCell ⟨w.heap.size, 2, none⟩ (.string tv))) HW7.out (fun g hg => by
                  have h3 := own_base HW7.out g hg
                  exact (blk_far _ _ _ _ _ (by omega)).trans ((blk_far _ _ _ _ _ (by omega)).trans ((blk_far _ _ _ _ _ (by omega)).trans (blk_far _ _ _ _ _ (by omega))))))
                go_wp2_with (fail)
                refine qunpack_end HR7.out rfl rfl ?_
                rw [HE.out]
                obtain ⟨A2, c2, e2, hc2, hC2⟩ := own_C (d := k45) (enc := diagCs) (fun _ => rfl) (fun x _ => k45_mk _ x) HF.out
                injection e2 with e2 _ e3
                subst e2 e3
                refine ⟨A, c, rfl, HC.out, hC2, ?_⟩
                repeat (first | exact HB7.out | refine Below.setCell ?_ (by simp only; omega) _)
              | false =>
                have HE := Lib.hid (HNO.out hte)
                go_wp2_with (fail)
                refine qunpack_end HR7.out rfl rfl ?_
                refine HERR.out _ HE.out ?_
                repeat (first | exact HB7.out | refine Below.setCell ?_ (by simp only; omega) _)
          · have HE : Hid (unpackF s = unpackBad) := Lib.hid ((HU.out.2 rfl).trans (if_neg (fun h => hbe (HES.out.1 h.1))))
            have hne : ((b2 : Int) == s.size) = false := by simp; omega
            clear HES HU
            go_wp2_with (fail)
            refine qunpack_end HR7.out rfl rfl ?_
            refine HERR.out _ HE.out ?_
            repeat (first | exact HB7.out | refine Below.setCell ?_ (by simp only; omega) _)
end Go.Proofs.Ytnafeapbglflnaa
