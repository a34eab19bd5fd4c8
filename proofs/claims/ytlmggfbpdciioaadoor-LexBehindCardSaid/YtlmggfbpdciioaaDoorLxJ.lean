/- LexJoins. -/
import Derived.Test.YtlmggfbpdciioaaDoorLxI
namespace Go.Proofs.YtlmggfbpdciioaaDoor
open Go.RowKit PRef Go.Proofs.YtlmggfbpdciioaaDoorW.PrintWords
set_option linter.unusedVariables false

theorem rd31 (L : List S31) (i : Nat) (h : i < L.length) : rd_T31 L (i : Int) = L[i] := by unfold rd_T31; simp [h]

/-- alike, of lists that are. -/
theorem ralike_l (L M : List S31) (hl : L.length ≤ 1000000) (hlen : M.length = L.length) (heq : ∀ i (h : i < L.length), L[i].f0 = (M[i]'(by omega)).f0 ∧ L[i].f3 = (M[i]'(by omega)).f3) : ∀ (d k i : Nat), i ≤ L.length → L.length - i ≤ d → d + 1 ≤ k → quoinlaw02_alike.l0 k L M (i : Int) = some true := by
  intro d
  induction d with
  | zero =>
    intro k i hi hd hk
    obtain ⟨k, rfl⟩ : ∃ m, k = m + 1 := ⟨k - 1, by omega⟩
    rw [quoinlaw02_alike.l0, if_neg (by omega)]
  | succ d ih =>
    intro k i hi hd hk
    obtain ⟨k, rfl⟩ : ∃ m, k = m + 1 := ⟨k - 1, by omega⟩
    rw [quoinlaw02_alike.l0]
    by_cases hlt : i < L.length
    · obtain ⟨e0, e3⟩ := heq i hlt
      rw [if_pos (by omega), if_pos (by omega), if_pos (by omega), rd31 L i hlt, rd31 M i (by omega), if_pos e0, if_pos (by rw [e3]), show wrap64 ((i : Int) + 1) = ((i + 1 : Nat) : Int) by rw [wrap_small (by omega) (by omega)]; rfl]
      exact ih k (i + 1) (by omega) (by omega) (by omega)
    · rw [if_neg (by omega)]
theorem ralike (L M : List S31) (hl : L.length ≤ 1000000) (h : L.map (fun x => (x.f0, x.f3)) = M.map (fun x => (x.f0, x.f3))) : quoinlaw02_alike.f (L.length + 1) L M = some true := by
  have hlen : M.length = L.length := by
    have := congrArg List.length h
    simpa using this.symm
  unfold quoinlaw02_alike.f
  rw [if_pos (by omega)]
  refine ralike_l L M hl hlen (fun i hi => ?_) L.length (L.length + 1) 0 (Nat.zero_le _) (by omega) (by omega)
  have h1 := congrArg (fun l => l[i]?) h
  simp only [List.getElem?_map, List.getElem?_eq_getElem hi, List.getElem?_eq_getElem (show i < M.length by omega), Option.map_some, Option.some.injEq, Prod.mk.injEq] at h1
  exact h1

/-- joined. -/
theorem rjoined_l (L : List S31) (b : ByteArray) (hl : L.length ≤ 4001) (hb : b.size ≤ 100) (ht : ∀ x ∈ L, x.f3.size ≤ 2000) : ∀ (d k i : Nat) (acc : ByteArray), i ≤ L.length → L.length - i ≤ d → d + 1 ≤ k → acc.size ≤ i * 2100 →
    ∃ R, quoinlaw02_joined.l0 k L b acc (i : Int) = some R ∧ R.data.toList = acc.data.toList ++ joinL b.data.toList ((L.drop i).map fun x => x.f3.data.toList) := by
  intro d
  have hap : ∀ x y : ByteArray, (x ++ y).data.toList = x.data.toList ++ y.data.toList := fun x y => by simp
  induction d with
  | zero =>
    intro k i acc hi hd hk ha
    obtain ⟨k, rfl⟩ : ∃ m, k = m + 1 := ⟨k - 1, by omega⟩
    have hie : i = L.length := by omega
    refine ⟨acc ++ b, ?_, ?_⟩
    · rw [quoinlaw02_joined.l0, if_neg (by omega), if_pos (by omega)]
    · rw [hap, List.drop_eq_nil_of_le (by omega)]; rfl
  | succ d ih =>
    intro k i acc hi hd hk ha
    obtain ⟨k, rfl⟩ : ∃ m, k = m + 1 := ⟨k - 1, by omega⟩
    by_cases hlt : i < L.length
    · have hsz := ht L[i] (List.getElem_mem hlt)
      have hz1 : (acc ++ b).size = acc.size + b.size := ByteArray.size_append
      have hz2 : (acc ++ b ++ L[i].f3).size = acc.size + b.size + L[i].f3.size := by rw [ByteArray.size_append, hz1]
      obtain ⟨R, h1, h2⟩ := ih k (i + 1) (acc ++ b ++ L[i].f3) (by omega) (by omega) (by omega) (by rw [hz2, Nat.add_mul]; omega)
      refine ⟨R, ?_, ?_⟩
      · rw [quoinlaw02_joined.l0, if_pos (by omega), if_pos (by omega), if_pos (by omega), rd31 L i hlt, if_pos (by omega), show wrap64 ((i : Int) + 1) = ((i + 1 : Nat) : Int) by rw [wrap_small (by omega) (by omega)]; rfl]
        exact h1
      · rw [h2, hap, hap, List.drop_eq_getElem_cons hlt, List.map_cons, joinL]
        simp only [List.append_assoc]
    · have hie : i = L.length := by omega
      refine ⟨acc ++ b, ?_, ?_⟩
      · rw [quoinlaw02_joined.l0, if_neg (by omega), if_pos (by omega)]
      · rw [hap, List.drop_eq_nil_of_le (by omega)]; rfl
theorem rjoined (L : List S31) (b : ByteArray) (hl : L.length ≤ 4001) (hb : b.size ≤ 100) (ht : ∀ x ∈ L, x.f3.size ≤ 2000) :
    ∃ R, quoinlaw02_joined.f (L.length + 1) L b = some R ∧ R.data.toList = joinL b.data.toList (L.map fun x => x.f3.data.toList) := by
  obtain ⟨R, h1, h2⟩ := rjoined_l L b hl hb ht L.length (L.length + 1) 0 ⟨#[]⟩ (Nat.zero_le _) (by omega) (by omega) (Nat.zero_le _)
  exact ⟨R, h1, by simpa using h2⟩

theorem joinL_len (b : List UInt8) : ∀ ts : List (List UInt8), (∀ t ∈ ts, t.length ≤ 2000) → (joinL b ts).length ≤ (ts.length + 1) * (b.length + 2000)
  | [], _ => by simp [joinL]
  | t :: ts, h => by
    have h1 := h t List.mem_cons_self
    have h2 := joinL_len b ts (fun x hx => h x (List.mem_cons_of_mem _ hx))
    rw [joinL, List.length_append, List.length_append, List.length_cons]
    have e : (ts.length + 1 + 1) * (b.length + 2000) = (ts.length + 1) * (b.length + 2000) + (b.length + 2000) := by rw [Nat.add_mul (ts.length + 1)]; omega
    omega
theorem tk_bytes (s : ByteArray) (t : Tk) : (tkS s t).f3.data.toList = byts s.data.toList t := by
  unfold tkS byts
  exact Lib.extract_data s t.at_ t.en
theorem ba_ext {x y : ByteArray} (h : x.data.toList = y.data.toList) : x = y := by
  apply ByteArray.ext
  exact Array.toList_inj.1 h

/-- What joining does to a text without fault. -/
theorem join_law (s : ByteArray) (hs : s.size ≤ 2000) (T : List Tk) (hL : Lx 0 0 s.data.toList T none) (b : ByteArray) (hb : b.size ≤ 100) (hB : Between b.data.toList) :
    ∃ R T', quoinlaw02_joined.f (T.length + 1) (T.map (tkS s)) b = some R ∧ R.size ≤ 9223372036854775806 ∧ Lx 0 0 R.data.toList T' none ∧ T'.length ≤ 4001 ∧ quoinlaw02_alike.f (T'.length + 1) (T'.map (tkS R)) (T.map (tkS s)) = some true := by
  have hlen := lx_len hL
  rw [len_toList] at hlen
  obtain ⟨R, h1, h2⟩ := rjoined (T.map (tkS s)) b (by rw [List.length_map]; omega) hb (by
    intro x hx
    obtain ⟨t, _, rfl⟩ := List.mem_map.1 hx
    show (s.extract t.at_ t.en).size ≤ 2000
    rw [ByteArray.size_extract]
    omega)
  rw [List.length_map] at h1
  have e1 : ((T.map (tkS s)).map fun x => x.f3.data.toList) = T.map (byts s.data.toList) := by
    rw [List.map_map]
    apply List.map_congr_left
    intro t _
    exact tk_bytes s t
  rw [e1] at h2
  obtain ⟨T', hL', hmap⟩ := lx_join hB hL rfl s.data.toList rfl 0 0 R.data.toList (by omega) (by rw [List.drop_zero, h2])
  rw [← h2] at hL'
  have hlen' : T'.length = T.length := by
    have := congrArg List.length hmap
    simpa using this
  refine ⟨R, T', h1, ?_, hL', by omega, ?_⟩
  · have h3 := joinL_len b.data.toList (T.map (byts s.data.toList)) (by
      intro t ht
      obtain ⟨x, _, rfl⟩ := List.mem_map.1 ht
      rw [← tk_bytes, len_toList]
      show (s.extract x.at_ x.en).size ≤ 2000
      rw [ByteArray.size_extract]
      omega)
    rw [← h2, len_toList, len_toList, List.length_map] at h3
    have h4 : (T.length + 1) * (b.size + 2000) ≤ 4002 * 2100 := Nat.mul_le_mul (by omega) (by omega)
    omega
  · have := ralike (T'.map (tkS R)) (T.map (tkS s)) (by rw [List.length_map]; omega) (by
      rw [List.map_map, List.map_map]
      apply List.ext_getElem?
      intro i
      have h3 := congrArg (fun l => l[i]?) hmap
      simp only [List.getElem?_map] at h3 ⊢
      rcases h4 : T'[i]? with _ | t'
      · rw [h4] at h3
        rcases h5 : T[i]? with _ | t
        · rfl
        · rw [h5] at h3; cases h3
      · rw [h4] at h3
        rcases h5 : T[i]? with _ | t
        · rw [h5] at h3; cases h3
        · rw [h5] at h3
          simp only [Option.map_some, Option.some.injEq, Prod.mk.injEq] at h3
          simp only [Option.map_some, Function.comp, Option.some.injEq, Prod.mk.injEq]
          refine ⟨?_, ba_ext ?_⟩
          · show ((t'.kd : Nat) : Int) = (t.kd : Int)
            rw [h3.1]
          · rw [tk_bytes, tk_bytes, h3.2])
    rw [List.length_map] at this
    exact this

theorem lx_out {s : ByteArray} {T : List Tk} {e : Option (Nat × Nat)} (hL : Lx 0 0 s.data.toList T e) : (outT T e).length ≤ 4001 := by
  unfold outT
  have := (lx_len hL).2 (by omega)
  split <;> simp <;> omega

set_option maxRecDepth 100000 in
set_option maxHeartbeats 2000000 in
theorem lexJoins_any (s : ByteArray) (hs : s.size ≤ 140737488351232) (w : World) (ht : Tab w) : Calls Tryd.prog 6 #[.string s] w fun e w' => e = .returned (.bool true) ∧ Below w.heap.size w w' := by
  have H0 := Lib.hid (awake_any w ht)
  have HT := Lib.hid ht
  clear ht
  by_cases h2 : s.size ≤ 2000
  · obtain ⟨T, e, hL⟩ := lx_total 0 0 s.data.toList
    have h1 := fun w ht => all_c s (by omega) w ht T e hL
    have h2' : ¬ (2000 : Int) < (s.size : Int) := by omega
    cases e with
    | some x =>
      obtain ⟨da, dc⟩ := x
      have hdc : dc ≠ 0 := (lx_err hL da dc rfl).2.2
      have hne : ¬ (da = 0 ∧ dc = 0) := fun h => hdc h.2
      have H1 := Lib.hid h1
      clear h1 hL hdc
      go_enter Tryd.func6, Tryd.ntmps6
      go_wp2_with (fail)
      refine H0.out.mono ?_
      rintro e1 w1 ⟨rfl, hb1⟩
      have HB1 := Lib.hid hb1
      have HT1 := Lib.hid (HT.out.later hb1)
      clear hb1
      go_wp2_with (fail)
      refine (H1.out _ HT1.out).mono ?_
      rintro e2 w2 ⟨A, c, rfl, hc, hC, hb2⟩
      have HB2 := Lib.hid (bel_trans HB1.out hb2)
      clear hc hC hb2
      unfold outA outC
      go_wp2_with (fail)
      all_goals
        go_ret
        exact ⟨rfl, bel_alloc HB2.out _⟩
    | none =>
      obtain ⟨R1, T1, j1, z1, l1, n1, a1⟩ := join_law s h2 T hL ⟨#[32]⟩ (by decide) between_blank
      obtain ⟨R2, T2, j2, z2, l2, n2, a2⟩ := join_law s h2 T hL ⟨#[47, 47, 32, 120, 34, 32, 47, 47, 10]⟩ (by decide) between_comment
      have hC1 := fun w ht => all_c R1 z1 w ht T1 none l1
      have hC2 := fun w ht => all_c R2 z2 w ht T2 none l2
      rw [show outT T none = T from rfl] at h1
      rw [show outT T1 none = T1 from rfl] at hC1
      rw [show outT T2 none = T2 from rfl] at hC2
      generalize hE : T.map (tkS s) = L at *
      generalize hE1 : T1.map (tkS R1) = L1 at *
      generalize hE2 : T2.map (tkS R2) = L2 at *
      have e0 : T.length = L.length := by rw [← hE, List.length_map]
      have e1 : T1.length = L1.length := by rw [← hE1, List.length_map]
      have e2 : T2.length = L2.length := by rw [← hE2, List.length_map]
      rw [e0] at h1 j1 j2
      rw [e1] at hC1 a1
      rw [e2] at hC2 a2
      have H1 := Lib.hid h1
      have HC1 := Lib.hid hC1
      have HC2 := Lib.hid hC2
      have J1 := Lib.hid j1
      have J2 := Lib.hid j2
      have A1 := Lib.hid a1
      have A2 := Lib.hid a2
      clear h1 hC1 hC2 j1 j2 a1 a2 hE hE1 hE2 e0 e1 e2 l1 l2 n1 n2 z1 z2 hL
      unfold outA outC at H1 HC1 HC2
      go_enter Tryd.func6, Tryd.ntmps6
      go_wp2_with (fail)
      refine H0.out.mono ?_
      rintro e1 w1 ⟨rfl, hb1⟩
      have HB1 := Lib.hid hb1
      have HT1 := Lib.hid (HT.out.later hb1)
      clear hb1
      go_wp2_with (fail)
      refine (H1.out _ HT1.out).mono ?_
      rintro e2 w2 ⟨A, c, rfl, hc, hC, hb2⟩
      have HB2 := Lib.hid (bel_alloc (bel_trans HB1.out hb2) (.cells #[.int .i64 0, .int .i64 0] 25))
      have HL := Lib.hid (Kd.C_below hC (bel_alloc (Below.refl _ _) (.cells #[.int .i64 0, .int .i64 0] 25)))
      have HLC := Lib.hid hc
      have HS2 : w.heap.size ≤ w2.heap.size := by have := (bel_trans HB1.out hb2).size; exact this
      clear hc hC hb2
      go_wp2_with (fail)
      refine (quoinlaw02_joined.calls _ _ _ L _ _ _ HL.out HLC.out J1.out).mono ?_
      rintro e3 w3 ⟨rfl, hd3⟩
      have HB3 := Lib.hid (bel_trans HB2.out hd3.below)
      have HL3 := Lib.hid (Kd.C_below HL.out hd3.below)
      clear hd3
      go_wp2_with (fail)
      refine (HC1.out _ (HT.out.later HB3.out)).mono ?_
      rintro e4 w4 ⟨B, cb, rfl, hc4, hC4, hb4⟩
      have HB4 := Lib.hid (bel_alloc (bel_trans HB3.out hb4) (.cells #[.int .i64 0, .int .i64 0] 25))
      have HL4 := Lib.hid (Kd.C_below HL3.out (bel_alloc hb4 (.cells #[.int .i64 0, .int .i64 0] 25)))
      have HM4 := Lib.hid (Kd.C_below hC4 (bel_alloc (Below.refl _ _) (.cells #[.int .i64 0, .int .i64 0] 25)))
      have HMC := Lib.hid hc4
      have HD4 := Lib.hid (blk_new w4 (.cells #[.int .i64 0, .int .i64 0] 25))
      clear hc4 hC4 hb4
      go_wp2_with (fail)
      refine (quoinlaw02_joined.calls _ _ _ L _ _ _ HL4.out HLC.out J2.out).mono ?_
      rintro e5 w5 ⟨rfl, hd5⟩
      have HB5 := Lib.hid (bel_trans HB4.out hd5.below)
      have HL5 := Lib.hid (Kd.C_below HL4.out hd5.below)
      have HM5 := Lib.hid (Kd.C_below HM4.out hd5.below)
      have HD5 := Lib.hid (blk_later hd5.below HD4.out)
      clear hd5
      go_wp2_with (fail)
      refine (HC2.out _ (HT.out.later HB5.out)).mono ?_
      rintro e6 w6 ⟨C, cc, rfl, hc6, hC6, hb6⟩
      have HB6 := Lib.hid (bel_alloc (bel_trans HB5.out hb6) (.cells #[.int .i64 0, .int .i64 0] 25))
      have HL6 := Lib.hid (Kd.C_below HL5.out (bel_alloc hb6 (.cells #[.int .i64 0, .int .i64 0] 25)))
      have HM6 := Lib.hid (Kd.C_below HM5.out (bel_alloc hb6 (.cells #[.int .i64 0, .int .i64 0] 25)))
      have HD6 := Lib.hid (blk_alloc (blk_later hb6 HD5.out) (.cells #[.int .i64 0, .int .i64 0] 25))
      have HN6 := Lib.hid (Kd.C_below hC6 (bel_alloc (Below.refl _ _) (.cells #[.int .i64 0, .int .i64 0] 25)))
      have HNC := Lib.hid hc6
      have HE6 := Lib.hid (blk_new w6 (.cells #[.int .i64 0, .int .i64 0] 25))
      clear hc6 hC6 hb6
      go_wp2_with (fail)
      refine (quoinlaw02_alike.calls _ _ _ L1 _ _ L true _ HM6.out HMC.out HL6.out HLC.out A1.out).mono ?_
      rintro e7 w7 ⟨rfl, hd7⟩
      have HB7 := Lib.hid (bel_trans HB6.out hd7.below)
      have HL7 := Lib.hid (Kd.C_below HL6.out hd7.below)
      have HN7 := Lib.hid (Kd.C_below HN6.out hd7.below)
      have HD7 := Lib.hid (blk_later hd7.below HD6.out)
      have HE7 := Lib.hid (blk_later hd7.below HE6.out)
      clear hd7
      go_wp2_with (fail)
      refine (quoinlaw02_alike.calls _ _ _ L2 _ _ L true _ HN7.out HNC.out HL7.out HLC.out A2.out).mono ?_
      rintro e8 w8 ⟨rfl, hd8⟩
      have HB8 := Lib.hid (bel_trans HB7.out hd8.below)
      have hk1 := blk_later hd8.below HD7.out
      have hk2 := blk_later hd8.below HE7.out
      have x0 := (blk_cell hk1 0).trans rfl
      have x1 := (blk_cell hk1 1).trans rfl
      have y0 := (blk_cell hk2 0).trans rfl
      have y1 := (blk_cell hk2 1).trans rfl
      clear hd8 hk1 hk2
      go_wp2_with (fail)
      go_ret
      exact ⟨rfl, HB8.out⟩
  · have h2' : (2000 : Int) < (s.size : Int) := by omega
    go_enter Tryd.func6, Tryd.ntmps6
    go_wp2_with (fail)
    refine H0.out.mono ?_
    rintro e1 w1 ⟨rfl, hb1⟩
    have HB1 := Lib.hid hb1
    clear hb1
    go_wp2_with (fail)
    go_ret
    exact ⟨rfl, HB1.out⟩
end Go.Proofs.YtlmggfbpdciioaaDoor
