/- The document's All. -/
import Derived.Test.YtlmggfbpdciioaaDoorRtC
import Derived.Test.YtlmggfbpdciioaaDoorLxQ
import Derived.Maps.AppendAt
namespace Go.Proofs.YtlmggfbpdciioaaDoor
open Go.RowKit PRef Go.Proofs.YtlmggfbpdciioaaDoorW.PrintWords
set_option linter.unusedVariables false

theorem rskip_c (s : ByteArray) (hs : s.size ≤ 9223372036854775806) (a : Nat) (ha : a ≤ s.size) (w : World) : Calls Tryd.prog 20 #[.string s, .int .i64 (a : Int)] w fun e w' => e = .returned (.int .i64 ((a + skipN false (s.data.toList.drop a) : Nat) : Int)) ∧ ∃ n, w' = w.drewN n :=
  (quoinref02_Skip.calls _ _ _ _ w (rskip_f s hs (4 * s.size + 4) a ha (Nat.le_refl _))).mono fun e w' ⟨h1, h2⟩ => ⟨h1, h2.out⟩

/-- The end of a function that hands back a slice and a Diag. -/
theorem sd_end {fn : Func} {p u : Tmp} (hr : fn.results = #[.tmp u, .cell p 25]) {R : Ending → World → Prop} {a : Act} {W : World} {h : Nat} {v d0 d1 : Value} (hR : W.heap[h]? = some (.cells #[d0, d1] 25 (0, 0)))
    (hp : a.tmps.getD p undef = .pointer (some ⟨h, 0, none⟩)) (hu : a.tmps.getD u undef = v) (hd : a.defers = []) (hQ : R (.returned (.tuple #[v, .agg #[d0, d1]])) W) : bodyPost Tryd.prog fn R .ret a W := by
  refine bodyPost_ret ((results_tmp_cell (p := p) (u := u) (ty := 25) hr a.tmps Tryd.prog _).trans ?_) hd hQ
  rw [hp, hu]
  have h3 := run_loadVar_row (P := Tryd.prog) _ h 25 25 #[d0, d1] (0, 0) _ hR Tryd.underlying25 rfl (info25.trans rfl)
  simp only [asAddr, Sem.run_pure, Result.andThen_ok, h3]

def RAll (s : ByteArray) (T : List Tk) (e : Option (Nat × Nat)) (w : World) (r : Ending) (W : World) : Prop :=
  ∃ v, r = .returned (.tuple #[v, .agg #[.int .i64 (outA e : Int), .int .i64 (outC e : Int)]]) ∧ W.ownsRow w.heap.size 31 4 v (outT T e).length (((outT T e).map (tkS s)).flatMap s31C) ∧ Below w.heap.size w W

set_option maxRecDepth 100000 in
set_option maxHeartbeats 2000000 in
theorem rall_any (s : ByteArray) (hs : s.size ≤ 9223372036854775806) (w : World) (T : List Tk) (e : Option (Nat × Nat)) (hL : Lx 0 0 s.data.toList T e) :
    Calls Tryd.prog 16 #[.string s] w (RAll s T e w) := by
  obtain ⟨i0, hi, hzz, hzs, hzb⟩ := info_parts info31w
  obtain ⟨a0, ha0⟩ : ∃ a0, a0 = 0 + skipN false (s.data.toList.drop 0) := ⟨_, rfl⟩
  have hk0 := rskip_c s hs 0 (Nat.zero_le _)
  rw [← ha0] at hk0
  have HK0 := Lib.hid (fun w => show Calls Tryd.prog 20 #[.string s, .int .i64 0] w _ from hk0 w)
  have HA0 := Lib.hid ha0
  clear hk0 ha0
  go_enter Tryd.func16, Tryd.ntmps16
  go_wp2_with (fail)
  refine (HK0.out _).mono ?_
  rintro e1 w1 ⟨rfl, n1, rfl⟩
  go_wp2_with (fail)
  obtain ⟨W0, hW0⟩ : ∃ W0, (w.alloc (.cells #[.int .i64 0, .int .i64 0] 25)).drewN n1 = W0 := ⟨_, rfl⟩
  have g0 : W0.heap[w.heap.size]? = some (.cells #[.int .i64 0, .int .i64 0] 25 (0, 0)) := by rw [← hW0]; exact blk_new w _
  have hb0 : Below w.heap.size w W0 := by rw [← hW0]; exact bel_drewN (bel_alloc (Below.refl _ _) _) n1
  rw [hW0]
  have HG0 := Lib.hid g0
  have HB0 := Lib.hid hb0
  clear hW0 g0 hb0 HK0
  go_loopw [4, 5] (fun v i wr => ∃ (a p : Nat) (T0 T' : List Tk), i = .int .i64 (p : Int) ∧ p = a + skipN false (s.data.toList.drop a) ∧ a ≤ s.size ∧ Lx T0.length a (s.data.toList.drop a) T' e ∧ T = T0 ++ T' ∧
      wr.ownsRow w.heap.size 31 4 v T0.length ((T0.map (tkS s)).flatMap s31C) ∧ wr.heap[w.heap.size]? = some (.cells #[.int .i64 0, .int .i64 0] 25 (0, 0)) ∧ Below w.heap.size w wr) (fun _ i _ => s.size - (intOf i).toNat)
  case atStart => exact ⟨0, a0, [], T, rfl, HA0.out, Nat.zero_le _, hL, rfl, World.ownsRow_nil _ _ _ _, HG0.out, HB0.out⟩
  case round =>
    obtain ⟨a, p, T0, T', rfl, hp, ha, hLx, hT, hrow, hg, hb⟩ := hrel
    have hple : p ≤ s.size := by
      have := skipN_le false (s.data.toList.drop a)
      rw [List.length_drop, len_toList] at this
      omega
    have hdp : (s.data.toList.drop a).drop (skipN false (s.data.toList.drop a)) = s.data.toList.drop p := by rw [List.drop_drop, hp]
    have hj4 : T0.length < 4002 := by
      have := (lx_len hL).2 (by omega)
      rw [hT, List.length_append] at this
      omega
    obtain ⟨A, c, hv, hc⟩ := own_slice hrow
    subst hv
    have z0 := (blk_cell hg 0).trans rfl
    have z1 := (blk_cell hg 1).trans rfl
    have zf0 := blk_free hg 0
    have zf1 := blk_free hg 1
    have hB : w.heap.size < wr.heap.size := blk_lt hg
    have HROW := Lib.hid hrow
    have HG := Lib.hid hg
    have HB := Lib.hid hb
    have HT := Lib.hid hT
    have HP := Lib.hid hp
    clear hrow hg hb hT hp
    have hpl : T0.length + 1 ≤ maxLen := by simp only [maxLen]; omega
    have hpb : (T0.length + 1) * 40 ≤ 140737488355328 := by omega
    have HPL := Lib.hid hpl
    have HPB := Lib.hid hpb
    clear hpl hpb
    by_cases hlt : p < s.size
    · rw [drop_at s p hlt] at hdp
      have hTK := rtoken_any s hs p hlt
      generalize hr3 : tokC s[p] (s.data.toList.drop (p + 1)) = r3 at *
      by_cases hbad : lexErr T0.length r3.2.2 = 0
      · have h4 : (T0.length : Int) < 4000 := by
          unfold lexErr at hbad
          split at hbad
          · cases hbad
          · omega
        have hw0 : r3.2.2 = 0 := by
          unfold lexErr at hbad
          rw [if_neg (by omega)] at hbad
          exact hbad
        have hlenr := tok_len_le s[p] (s.data.toList.drop (p + 1)) (by rw [hr3]; exact hw0)
        have hposr := tok_len_pos s[p] (s.data.toList.drop (p + 1))
        rw [hr3] at hlenr hposr
        rw [← drop_at s p hlt, List.length_drop, len_toList] at hlenr
        obtain ⟨en, hen⟩ : ∃ en, en = p + r3.2.1 := ⟨_, rfl⟩
        have henl : en ≤ s.size := by omega
        have henp : p < en := by omega
        obtain ⟨T'', e'', hL''⟩ := lx_total (T0.length + 1) en (s.data.toList.drop en)
        have hTe : T' = ⟨r3.1, p, en⟩ :: T'' ∧ e = e'' := by
          have hx := Lx.tok (n := T0.length) (at_ := a) (l := s.data.toList.drop a) (T := T'') (e := e'') hdp (by omega) (by rw [hr3]; exact hw0) (by
            rw [hr3, ← drop_at s p hlt, List.drop_drop, ← HP.out, ← hen]
            exact hL'')
          have := lx_det hLx hx
          rw [hr3, ← HP.out, ← hen] at this
          exact this
        obtain ⟨rfl, rfl⟩ := hTe
        obtain ⟨q, hq⟩ : ∃ q, q = en + skipN false (s.data.toList.drop en) := ⟨_, rfl⟩
        have hSK := fun w => rskip_c s hs en henl w
        rw [← hq] at hSK
        have hqen : en ≤ q := by omega
        have hTK' : ∀ w, Calls Tryd.prog 28 #[.string s, .int .i64 (p : Int)] w fun e w' => e = .returned (.tuple #[.agg #[.int .i64 (r3.1 : Int), .int .i64 (p : Int), .int .i64 (en : Int), .string ⟨#[]⟩], .int .i64 0]) ∧ Below w.heap.size w w' := fun w => by
          have := hTK w
          unfold RPost at this
          rw [rkd_of rfl hw0 (by decide), ren_of p rfl hw0 (by decide) (by decide), ← hen, hw0] at this
          exact this
        have HTK := Lib.hid hTK'
        have HQ := Lib.hid hq
        have HSK := Lib.hid hSK
        have HL2 := Lib.hid hL''
        clear hw0 hbad hdp hLx hr3 hlenr hposr hq hSK hL'' hen hTK hTK'
        go_wp2_with (fail)
        refine (HTK.out _).mono ?_
        rintro e2 w2 ⟨rfl, hb2⟩
        have HROW2 := Lib.hid (own_later HROW.out hb2)
        have HG2 := Lib.hid (blk_later hb2 HG.out)
        have HB2 := Lib.hid (bel_trans HB.out hb2)
        have hs2 : w.heap.size < w2.heap.size := blk_lt HG2.out
        have hnew := new_cells (w2.alloc (.cells #[.int .i64 (r3.1 : Int), .int .i64 (p : Int), .int .i64 (en : Int), .string (s.extract p en)] 31)) #[.int .i64 (r3.1 : Int), .int .i64 (p : Int), .int .i64 (en : Int), .string (s.extract p en)] 31
        simp only [World.size_alloc] at hnew
        have HNEW := Lib.hid hnew
        clear hb2 hnew
        go_wp2_with (at_builtin; refine wpList_append_own _ rfl _ _ 23 rfl w.heap.size 31 i0 _ 4 40 Tryd.underlying23 hi hzz hzs hzb rfl (by decide) _ _ _ rfl ((HROW2.out.alloc _).alloc _) ⟨w2.heap.size + 1, 0, none⟩ 1 1 [.int .i64 (r3.1 : Int), .int .i64 (p : Int), .int .i64 (en : Int), .string (s.extract p en)] rfl rfl HNEW.out (by simp [Value.oneCell']) HPL.out HPB.out (by simp; omega) ?_; intro v' w3 hown' hgrow _; have hg1 := (hgrow.block w.heap.size (by simp; omega) (fun e => own_ne HROW2.out HG2.out (by intro cs' f' e; injection e with _ e; cases e) e.symm)).trans (blk_alloc (blk_alloc HG2.out _) _); have ht3 := (hgrow.block w2.heap.size (by simp; omega) (fun e => by have := (HROW2.out.lt _ e.symm).2; omega)).trans (blk_alloc (blk_new w2 _) _); have c2 := (blk_cell ht3 2).trans rfl; have HG1 := Lib.hid hg1; have HOWN := Lib.hid hown'; have HGR := Lib.hid hgrow; clear hg1 hown' hgrow ht3)
        refine (HSK.out _).mono ?_
        rintro e3 w4 ⟨rfl, n4, rfl⟩
        have HB3 := Lib.hid ((bel_alloc (bel_alloc HB2.out _) _).grown HGR.out (by simp; omega) (fun k hk => (HROW2.out.lt k hk).1))
        clear c2
        go_wp2
        go_roundw
        case rel =>
          refine ⟨en, q, T0 ++ [⟨r3.1, p, en⟩], T'', rfl, HQ.out, henl, by simpa using HL2.out, by rw [HT.out]; simp, ?_, HG1.out, bel_drewN HB3.out n4⟩
          have h := HOWN.out
          rw [List.length_append, List.map_append, List.flatMap_append]
          exact h
        case measure => simp [intOf]; omega
      · have hTe : T' = [] ∧ e = some (p, lexErr T0.length r3.2.2) := by
          have := lx_det hLx (Lx.bad hdp (by rw [hr3]; exact hbad))
          rw [hr3, ← HP.out] at this
          exact this
        obtain ⟨rfl, rfl⟩ := hTe
        by_cases h4 : (4000 : Int) ≤ (T0.length : Int)
        · have hx6 : lexErr T0.length r3.2.2 = 6 := by unfold lexErr; rw [if_pos (by omega)]
          have HX6 := Lib.hid hx6
          clear hx6 hbad hdp hLx hr3 hTK
          go_wp2_with (fail)
          exact sd_end rfl ((blk_set (blk_set HG.out 0 _) 1 _).trans rfl) rfl rfl rfl ⟨.slice none 0 0, by rw [HX6.out]; rfl, World.ownsRow_nil _ _ _ _, bel_set (bel_set HB.out (Nat.le_refl _)) (Nat.le_refl _)⟩
        · have hx6 : lexErr T0.length r3.2.2 = r3.2.2 := by unfold lexErr; rw [if_neg (by omega)]
          have hne : ((r3.2.2 : Int) != 0) = true := by
            rw [hx6] at hbad
            simpa using hbad
          have HX6 := Lib.hid hx6
          have HTK := Lib.hid hTK
          clear hx6 hbad hdp hLx hr3 hTK
          go_wp2_with (fail)
          refine (HTK.out _).mono ?_
          rintro e2 w2 ⟨rfl, hb2⟩
          have hg2 := blk_later hb2 HG.out
          have y0 := (blk_cell hg2 0).trans rfl
          have y1 := (blk_cell hg2 1).trans rfl
          have yf0 := blk_free hg2 0
          have yf1 := blk_free hg2 1
          have hB2 : w.heap.size < w2.heap.size := blk_lt hg2
          have HG2 := Lib.hid hg2
          have HB2 := Lib.hid (bel_trans HB.out hb2)
          clear hg2 hb2
          go_wp2_with (fail)
          exact sd_end rfl (blk_alloc ((blk_set (blk_set HG2.out 0 _) 1 _).trans rfl) _) rfl rfl rfl ⟨.slice none 0 0, by rw [HX6.out]; rfl, World.ownsRow_nil _ _ _ _, bel_alloc (bel_set (bel_set HB2.out (Nat.le_refl _)) (Nat.le_refl _)) _⟩
    · have hpe : p = s.size := by omega
      subst hpe
      rw [drop_end] at hdp
      have hTe : T' = [⟨0, s.size, s.size⟩] ∧ e = none := by
        have := lx_det hLx (Lx.fin hdp)
        rw [List.length_drop, len_toList] at this
        rw [show a + (s.size - a) = s.size by omega] at this
        exact this
      obtain ⟨rfl, rfl⟩ := hTe
      clear hdp hLx
      go_wp2_with (at_builtin; refine wpList_append_own _ rfl _ _ 23 rfl w.heap.size 31 i0 _ 4 40 Tryd.underlying23 hi hzz hzs hzb rfl (by decide) _ _ _ rfl (HROW.out.alloc _) ⟨wr.heap.size, 0, none⟩ 1 1 [.int .i64 0, .int .i64 (s.size : Int), .int .i64 (s.size : Int), .string ⟨#[]⟩] rfl rfl (new_cells wr #[.int .i64 0, .int .i64 (s.size : Int), .int .i64 (s.size : Int), .string ⟨#[]⟩] 31) (by simp [Value.oneCell']) HPL.out HPB.out (by simp; omega) ?_; intro v' w1 hown' hgrow _; have hg1 := (hgrow.block w.heap.size (by simp; omega) (fun e => own_ne HROW.out HG.out (by intro cs' f' e; injection e with _ e; cases e) e.symm)).trans (blk_alloc HG.out _); have x0 := (blk_cell hg1 0).trans rfl; have x1 := (blk_cell hg1 1).trans rfl; have xf0 := blk_free hg1 0; have xf1 := blk_free hg1 1; have HG1 := Lib.hid hg1; have HOWN := Lib.hid hown'; have HGR := Lib.hid hgrow; clear hg1 hown' hgrow)
      have hex : tkS s ⟨0, s.size, s.size⟩ = ⟨0, (s.size : Int), (s.size : Int), ⟨#[]⟩⟩ := by
        have e2 : s.extract s.size s.size = ByteArray.empty := by
          apply ByteArray.ext
          apply Array.toList_inj.1
          rw [Lib.extract_to_end, drop_end]; rfl
        unfold tkS
        simp only [e2]
        rfl
      have hgrow := HGR.out
      refine sd_end rfl ((blk_set (blk_set HG1.out 0 _) 1 _).trans rfl) rfl rfl rfl ⟨v', rfl, ?_, ?_⟩
      · rw [show outT T none = T from rfl, HT.out, List.length_append, List.map_append, List.flatMap_append, List.map_singleton, hex]
        refine own_kept HOWN.out fun g hg => ?_
        have hgne : g ≠ w.heap.size := by
          rintro rfl
          exact own_ne HOWN.out HG1.out (by intro cs' f' e; injection e with _ e; cases e) hg
        exact (blk_far _ _ _ _ _ hgne).trans (blk_far _ _ _ _ _ hgne)
      · exact bel_set (bel_set ((bel_alloc HB.out _).grown hgrow (by simp; omega) (fun k hk => (HROW.out.lt k hk).1)) (Nat.le_refl _)) (Nat.le_refl _)
end Go.Proofs.YtlmggfbpdciioaaDoor
