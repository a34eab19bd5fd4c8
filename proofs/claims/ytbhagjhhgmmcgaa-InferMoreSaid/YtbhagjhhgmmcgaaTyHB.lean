/- What bounds a law's inputs: parts, small. -/
import Derived.Test.YtbhagjhhgmmcgaaTyHA
import Derived.Test.YtbhagjhhgmmcgaaTyT
namespace Go.Proofs.Ytbhagjhhgmmcgaa
open Go.RowKit PRef Go.Proofs.YtbhagjhhgmmcgaaW.PrintWords
set_option linter.unusedVariables false
set_option linter.unusedSimpArgs false

set_option maxRecDepth 100000 in
set_option maxHeartbeats 4000000 in
theorem parts_any {a : Ty} (ha : TyAll a) : ∀ (A : Option Addr) (c : Nat) (n : Int) (w : World), Kd.C kTy w A a.f4.length a.f4 → a.f4.length ≤ c →
    Calls Try.prog 34 #[.agg #[.int .i64 a.f0, .string a.f1, .string a.f2, .int .i64 a.f3, .slice A a.f4.length c], .int .i64 n] w fun e w' => ∃ r : Int, e = .returned (.int .i64 r) ∧ Below w.heap.size w w' := by
  induction ha with
  | mk t hs ih =>
    intro A c n w hA hc
    obtain ⟨k, p, q, m, l⟩ := t
    dsimp only at hs ih hA hc ⊢
    have hlm : l.length ≤ 9223372036854775807 := hA.2.1
    have HB := Lib.hid (bel_alloc (Below.refl w.heap.size w) (.cells #[.int .i64 k, .string p, .string q, .int .i64 m, .slice A l.length c] 29))
    have HT := Lib.hid (blk_new w (.cells #[.int .i64 k, .string p, .string q, .int .i64 m, .slice A l.length c] 29))
    have HA := Lib.hid hA
    have IH := Lib.hid ih
    clear hA ih hs
    go_enter Try.func34, Try.ntmps34
    go_wp2_with (fail)
    go_loopw [1, 5] (fun v1 vi wr => ∃ (x : Int) (j : Nat), v1 = .int .i64 x ∧ vi = .int .i64 j ∧ Hid (j ≤ l.length) ∧ Hid (wr.heap[w.heap.size]? = some (.cells #[.int .i64 k, .string p, .string q, .int .i64 m, .slice A l.length c] 29 (0, 0))) ∧ Hid (Below w.heap.size w wr)) (fun _ vi _ => l.length - (intOf vi).toNat)
    case atStart => exact ⟨_, 0, rfl, rfl, Lib.hid (Nat.zero_le _), HT, HB⟩
    case round =>
      clear HT HB
      obtain ⟨x, j, rfl, rfl, HK, HT, HB⟩ := hrel
      have tt := (blk_cell HT.out 4).trans rfl
      by_cases hlt : j < l.length
      · by_cases hx : x ≤ 60
        · have dx : decide (x ≤ 60) = true := decide_eq_true hx
          obtain ⟨y, hy⟩ : ∃ y, l[j]? = some y := ⟨_, List.getElem?_eq_getElem hlt⟩
          obtain ⟨ax, X4, e4, hAx, x0, x1, x2, x3, x4, lx, gx⟩ := at_T29 HA.out (j : Int) (by omega) (by omega)
          rw [show rd_T29 l (j : Int) = y from by unfold rd_T29; rw [Int.toNat_natCast, List.getD_eq_getElem?_getD, hy]; rfl] at x0 x1 x2 x3 x4 lx gx
          rw [Int.toNat_natCast] at x0 x1 x2 x3 x4
          subst hAx
          replace x0 := cell_later HB.out x0
          replace x1 := cell_later HB.out x1
          replace x2 := cell_later HB.out x2
          replace x3 := cell_later HB.out x3
          replace x4 := cell_later HB.out x4
          have HI := Lib.hid (IH.out y (List.mem_of_getElem? hy) X4 e4 x wr (Kd.C_below gx HB.out) lx)
          have i0 : 0 ≤ (j : Int) := by omega
          have i1 : (j : Int) < l.length := by omega
          have HLT := Lib.hid hlt
          clear hy lx gx hx
          go_wp2_with (fail)
          refine HI.out.mono ?_
          rintro e w8 ⟨r, rfl, hb8⟩
          have hB2 := Lib.hid (bel_trans HB.out hb8)
          have hT2 := Lib.hid (blk_later hb8 HT.out)
          clear hb8
          go_wp2_with (fail)
          go_roundw
          case rel => exact ⟨r, j + 1, rfl, by go_num, Lib.hid HLT.out, hT2, hB2⟩
          case measure => have := HLT.out; simp [intOf]; omega
        · have dx : decide (x ≤ 60) = false := decide_eq_false hx
          clear hx
          go_wp2_with (fail)
          go_ret
          exact ⟨_, rfl, HB.out⟩
      · obtain rfl : j = l.length := by have := HK.out; omega
        go_wp2_with (fail)
        go_ret
        exact ⟨_, rfl, HB.out⟩

set_option maxRecDepth 100000 in
set_option maxHeartbeats 8000000 in
theorem small_any (a : ScA) (s : Scp) (l : List Ty) (A : Option Addr) (c : Nat) (w : World) (hS : ScC a s.W s.B w) (hA : Kd.C kTy w A l.length l) (hc : l.length ≤ c) :
    Calls Try.prog 15 #[.agg #[.slice a.AW s.W.length a.cW, .slice a.AI a.nI a.cI, .slice a.AN a.nN a.cN, .slice a.AB s.B.length a.cB, .slice a.AV a.nV a.cV], .slice A l.length c] w fun e w' => ∃ r : Bool, e = .returned (.bool r) ∧ Below w.heap.size w w' := by
  have hlm : l.length ≤ 9223372036854775807 := hA.2.1
  have hwm : s.W.length ≤ 9223372036854775807 := hS.w_.2.1
  have HB := Lib.hid (bel_alloc (Below.refl w.heap.size w) (.cells #[.slice a.AW s.W.length a.cW, .slice a.AI a.nI a.cI, .slice a.AN a.nN a.cN, .slice a.AB s.B.length a.cB, .slice a.AV a.nV a.cV] 27))
  have HS := Lib.hid (blk_new w (.cells #[.slice a.AW s.W.length a.cW, .slice a.AI a.nI a.cI, .slice a.AN a.nN a.cN, .slice a.AB s.B.length a.cB, .slice a.AV a.nV a.cV] 27))
  have HA := Lib.hid hA
  have HW := Lib.hid hS.w_
  have h20 : (decide (20 < (s.W.length : Int)) = true ∨ decide (20 < (s.W.length : Int)) = false) := by cases decide (20 < (s.W.length : Int)) <;> simp
  have h21 : (decide (20 < (s.B.length : Int)) = true ∨ decide (20 < (s.B.length : Int)) = false) := by cases decide (20 < (s.B.length : Int)) <;> simp
  have H20 := Lib.hid h20
  have H21 := Lib.hid h21
  clear hA hS h20 h21
  rcases H20.out with d20 | d20
  · go_enter Try.func15, Try.ntmps15
    go_wp2_with (fail)
    go_ret
    exact ⟨_, rfl, HB.out⟩
  rcases H21.out with d21 | d21
  · go_enter Try.func15, Try.ntmps15
    go_wp2_with (fail)
    go_ret
    exact ⟨_, rfl, HB.out⟩
  go_enter Try.func15, Try.ntmps15
  go_wp2_with (fail)
  clear d20 d21 H20 H21
  go_loopw [5] (fun vi wr => ∃ i : Nat, vi = .int .i64 i ∧ Hid (i ≤ s.W.length) ∧ Hid (wr.heap[w.heap.size]? = some (.cells #[.slice a.AW s.W.length a.cW, .slice a.AI a.nI a.cI, .slice a.AN a.nN a.cN, .slice a.AB s.B.length a.cB, .slice a.AV a.nV a.cV] 27 (0, 0))) ∧ Hid (Below w.heap.size w wr)) (fun vi _ => s.W.length - (intOf vi).toNat)
  case atStart => exact ⟨0, rfl, Lib.hid (Nat.zero_le _), HS, HB⟩
  case round =>
    clear HS HB
    obtain ⟨i, rfl, HK1, HS, HB⟩ := hrel
    have s0 := (blk_cell HS.out 0).trans rfl
    by_cases hlt : i < s.W.length
    · obtain ⟨x, hx⟩ : ∃ x, s.W[i]? = some x := ⟨_, List.getElem?_eq_getElem hlt⟩
      obtain ⟨aw, W1, e1, W2, e2, hAw, x0, x1, x2, lx, gx, _, _⟩ := at_T74 HW.out (i : Int) (by omega) (by omega)
      rw [show rd_T74 s.W (i : Int) = x from by unfold rd_T74; rw [Int.toNat_natCast, List.getD_eq_getElem?_getD, hx]; rfl] at x0 x1 x2 lx gx
      rw [Int.toNat_natCast] at x0 x1 x2
      have hxm : x.f1.length ≤ 9223372036854775807 := gx.2.1
      have HXC := Lib.hid gx
      have HX1 := Lib.hid x1
      have HAW := Lib.hid hAw
      have i0 : 0 ≤ (i : Int) := by omega
      have i1 : (i : Int) < s.W.length := by omega
      have HLT1 := Lib.hid hlt
      have x1' := cell_later HB.out x1
      rw [hAw] at s0
      clear hx gx hAw x0 x1 x2
      have h30 : (decide (30 < (x.f1.length : Int)) = true ∨ decide (30 < (x.f1.length : Int)) = false) := by cases decide (30 < (x.f1.length : Int)) <;> simp
      rcases h30 with d30 | d30
      · go_wp2_with (fail)
        go_ret
        exact ⟨_, rfl, HB.out⟩
      go_wp2_with (fail)
      clear d30
      have HSo := HS
      have HBo := HB
      clear s0 x1' HS HB
      go_loopw [6] (fun vi wr => ∃ k : Nat, vi = .int .i64 k ∧ Hid (k ≤ x.f1.length) ∧ Hid (wr.heap[w.heap.size]? = some (.cells #[.slice a.AW s.W.length a.cW, .slice a.AI a.nI a.cI, .slice a.AN a.nN a.cN, .slice a.AB s.B.length a.cB, .slice a.AV a.nV a.cV] 27 (0, 0))) ∧ Hid (Below w.heap.size w wr)) (fun vi _ => x.f1.length - (intOf vi).toNat)
      case atStart => exact ⟨0, rfl, Lib.hid (Nat.zero_le _), HSo, HBo⟩
      case round =>
        clear HSo HBo
        obtain ⟨k, rfl, HK2, HS, HB⟩ := hrel
        have s0 := (blk_cell HS.out 0).trans rfl
        rw [HAW.out] at s0
        have x1' := cell_later HB.out HX1.out
        by_cases hlt2 : k < x.f1.length
        · obtain ⟨y, hy⟩ : ∃ y, x.f1[k]? = some y := ⟨_, List.getElem?_eq_getElem hlt2⟩
          obtain ⟨ay, A2, c2, A3, c3, hAy, y0, y1, y2, y3, _, gy2, ly3, gy3⟩ := at_T35 HXC.out (k : Int) (by omega) (by omega)
          rw [show rd_T35 x.f1 (k : Int) = y from by unfold rd_T35; rw [Int.toNat_natCast, List.getD_eq_getElem?_getD, hy]; rfl] at y0 y1 y2 y3 gy2 ly3 gy3
          rw [Int.toNat_natCast] at y0 y1 y2 y3
          have hym : y.f3.length ≤ 9223372036854775807 := gy3.2.1
          have hym2 : y.f2.length ≤ 9223372036854775807 := gy2.2.1
          have HYC := Lib.hid gy3
          rw [hAy] at x1'
          have HAY := Lib.hid hAy
          have j0 : 0 ≤ (k : Int) := by omega
          have j1 : (k : Int) < x.f1.length := by omega
          have HLT2 := Lib.hid hlt2
          replace y0 := cell_later HB.out y0
          replace y1 := cell_later HB.out y1
          replace y2 := cell_later HB.out y2
          replace y3 := cell_later HB.out y3
          clear hy gy2 gy3 ly3 hAy
          have HB5 := Lib.hid (bel_alloc HB.out (.cells #[.string y.f0, .bool y.f1, .slice A2 y.f2.length c2, .slice A3 y.f3.length c3] 35))
          have HS5 := Lib.hid (blk_alloc HS.out (.cells #[.string y.f0, .bool y.f1, .slice A2 y.f2.length c2, .slice A3 y.f3.length c3] 35))
          have HD5 := Lib.hid (blk_new wr (.cells #[.string y.f0, .bool y.f1, .slice A2 y.f2.length c2, .slice A3 y.f3.length c3] 35))
          have h31 : (decide (30 < (y.f3.length : Int)) = true ∨ decide (30 < (y.f3.length : Int)) = false) := by cases decide (30 < (y.f3.length : Int)) <;> simp
          have h32 : (decide (30 < (y.f2.length : Int)) = true ∨ decide (30 < (y.f2.length : Int)) = false) := by cases decide (30 < (y.f2.length : Int)) <;> simp
          rcases h31 with d31 | d31
          · clear h32
            go_wp2_with (fail)
            go_ret
            exact ⟨_, rfl, HB5.out⟩
          rcases h32 with d32 | d32
          · go_wp2_with (fail)
            go_ret
            exact ⟨_, rfl, HB5.out⟩
          go_wp2_with (fail)
          clear d31 d32
          generalize wr.alloc (.cells #[.string y.f0, .bool y.f1, .slice A2 y.f2.length c2, .slice A3 y.f3.length c3] 35) = W5 at *
          generalize wr.heap.size = gd at *
          clear s0 x1' HS HB y0 y1 y2 y3
          go_loopw [8] (fun vi wr => ∃ n : Nat, vi = .int .i64 n ∧ Hid (n ≤ y.f3.length) ∧ Hid (wr.heap[w.heap.size]? = some (.cells #[.slice a.AW s.W.length a.cW, .slice a.AI a.nI a.cI, .slice a.AN a.nN a.cN, .slice a.AB s.B.length a.cB, .slice a.AV a.nV a.cV] 27 (0, 0))) ∧ Hid (wr.heap[gd]? = some (.cells #[.string y.f0, .bool y.f1, .slice A2 y.f2.length c2, .slice A3 y.f3.length c3] 35 (0, 0))) ∧ Hid (Below w.heap.size w wr)) (fun vi _ => y.f3.length - (intOf vi).toNat)
          case atStart => exact ⟨0, rfl, Lib.hid (Nat.zero_le _), HS5, HD5, HB5⟩
          case round =>
            clear HS5 HD5 HB5
            obtain ⟨n, rfl, HK3, HS, HD, HB⟩ := hrel
            have d3 := (blk_cell HD.out 3).trans rfl
            by_cases hlt3 : n < y.f3.length
            · obtain ⟨z, hz⟩ : ∃ z, y.f3[n]? = some z := ⟨_, List.getElem?_eq_getElem hlt3⟩
              obtain ⟨az, B1, g1, B6, g6, hAz, z0, z1, z2, z3, z4, z5, z6, _, gz1, lz6, gz6⟩ := at_T50 HYC.out (n : Int) (by omega) (by omega)
              rw [show rd_T50 y.f3 (n : Int) = z from by unfold rd_T50; rw [Int.toNat_natCast, List.getD_eq_getElem?_getD, hz]; rfl] at z0 z1 z2 z3 z4 z5 z6 gz1 lz6 gz6
              rw [Int.toNat_natCast] at z0 z1 z2 z3 z4 z5 z6
              have hzm : z.f1.length ≤ 9223372036854775807 := gz1.2.1
              have HZC := Lib.hid gz1
              have HZ1 := Lib.hid z1
              have HPR := Lib.hid (fun (W : World) (hb : Below w.heap.size w W) => parts_any (tyAll z.f2) B6 g6 0 W (Kd.C_below gz6 hb) lz6)
              rw [hAz] at d3
              have HAZ := Lib.hid hAz
              have k0 : 0 ≤ (n : Int) := by omega
              have k1 : (n : Int) < y.f3.length := by omega
              have HLT3 := Lib.hid hlt3
              replace z0 := cell_later HB.out z0
              replace z1 := cell_later HB.out z1
              replace z2 := cell_later HB.out z2
              replace z3 := cell_later HB.out z3
              replace z4 := cell_later HB.out z4
              replace z5 := cell_later HB.out z5
              replace z6 := cell_later HB.out z6
              clear hz gz1 gz6 lz6 hAz
              have h40 : (decide (20 < (z.f1.length : Int)) = true ∨ decide (20 < (z.f1.length : Int)) = false) := by cases decide (20 < (z.f1.length : Int)) <;> simp
              rcases h40 with d40 | d40
              · go_wp2_with (fail)
                go_ret
                exact ⟨_, rfl, HB.out⟩
              go_wp2_with (fail)
              refine (HPR.out _ HB.out).mono ?_
              rintro e w6 ⟨r, rfl, hb⟩
              have HB6 := Lib.hid (bel_trans HB.out hb)
              have HS6 := Lib.hid (blk_later hb HS.out)
              have HD6 := Lib.hid (blk_later hb HD.out)
              clear hb d40 HPR
              have h60 : (decide (60 < r) = true ∨ decide (60 < r) = false) := by cases decide (60 < r) <;> simp
              rcases h60 with d60 | d60
              · go_wp2_with (fail)
                go_ret
                exact ⟨_, rfl, HB6.out⟩
              go_wp2_with (fail)
              clear d60 d3 HS HD HB z0 z1 z2 z3 z4 z5 z6
              go_loopw [9] (fun vi wr => ∃ q : Nat, vi = .int .i64 q ∧ Hid (q ≤ z.f1.length) ∧ Hid (wr.heap[w.heap.size]? = some (.cells #[.slice a.AW s.W.length a.cW, .slice a.AI a.nI a.cI, .slice a.AN a.nN a.cN, .slice a.AB s.B.length a.cB, .slice a.AV a.nV a.cV] 27 (0, 0))) ∧ Hid (wr.heap[gd]? = some (.cells #[.string y.f0, .bool y.f1, .slice A2 y.f2.length c2, .slice A3 y.f3.length c3] 35 (0, 0))) ∧ Hid (Below w.heap.size w wr)) (fun vi _ => z.f1.length - (intOf vi).toNat)
              case atStart => exact ⟨0, rfl, Lib.hid (Nat.zero_le _), HS6, HD6, HB6⟩
              case round =>
                clear HS6 HD6 HB6
                obtain ⟨q, rfl, HK4, HS, HD, HB⟩ := hrel
                have d3 := (blk_cell HD.out 3).trans rfl
                rw [HAZ.out] at d3
                have z1' := cell_later HB.out HZ1.out
                by_cases hlt4 : q < z.f1.length
                · obtain ⟨u, hu⟩ : ∃ u, z.f1[q]? = some u := ⟨_, List.getElem?_eq_getElem hlt4⟩
                  obtain ⟨au, U4, f4, hAu, u0, u1, u2, u3, u4, lu, gu⟩ := at_T29 HZC.out (q : Int) (by omega) (by omega)
                  rw [show rd_T29 z.f1 (q : Int) = u from by unfold rd_T29; rw [Int.toNat_natCast, List.getD_eq_getElem?_getD, hu]; rfl] at u0 u1 u2 u3 u4 lu gu
                  rw [Int.toNat_natCast] at u0 u1 u2 u3 u4
                  rw [hAu] at z1'
                  replace u0 := cell_later HB.out u0
                  replace u1 := cell_later HB.out u1
                  replace u2 := cell_later HB.out u2
                  replace u3 := cell_later HB.out u3
                  replace u4 := cell_later HB.out u4
                  have HPU := Lib.hid (parts_any (tyAll u) U4 f4 0 wr (Kd.C_below gu HB.out) lu)
                  have m0 : 0 ≤ (q : Int) := by omega
                  have m1 : (q : Int) < z.f1.length := by omega
                  have HLT4 := Lib.hid hlt4
                  clear hu gu lu hAu
                  go_wp2_with (fail)
                  refine HPU.out.mono ?_
                  rintro e w7 ⟨r7, rfl, hb⟩
                  have HB7 := Lib.hid (bel_trans HB.out hb)
                  have HS7 := Lib.hid (blk_later hb HS.out)
                  have HD7 := Lib.hid (blk_later hb HD.out)
                  clear hb HPU
                  have h61 : (decide (60 < r7) = true ∨ decide (60 < r7) = false) := by cases decide (60 < r7) <;> simp
                  rcases h61 with d61 | d61
                  · go_wp2_with (fail)
                    go_ret
                    exact ⟨_, rfl, HB7.out⟩
                  · go_wp2_with (fail)
                    go_roundw
                    case rel => exact ⟨q + 1, by go_num, Lib.hid HLT4.out, HS7, HD7, HB7⟩
                    case measure => have := HLT4.out; simp [intOf]; omega
                · obtain rfl : q = z.f1.length := by have := HK4.out; omega
                  go_wp2_with (fail)
                  go_roundw
                  case rel => exact ⟨n + 1, by go_num, Lib.hid HLT3.out, HS, HD, HB⟩
                  case measure => have := HLT3.out; simp [intOf]; omega
            · obtain rfl : n = y.f3.length := by have := HK3.out; omega
              go_wp2_with (fail)
              go_roundw
              case rel => exact ⟨k + 1, by go_num, Lib.hid HLT2.out, HS, HB⟩
              case measure => have := HLT2.out; simp [intOf]; omega
        · obtain rfl : k = x.f1.length := by have := HK2.out; omega
          go_wp2_with (fail)
          go_roundw
          case rel => exact ⟨i + 1, by go_num, Lib.hid HLT1.out, HS, HB⟩
          case measure => have := HLT1.out; simp [intOf]; omega
    · obtain rfl : i = s.W.length := by have := HK1.out; omega
      go_wp2_with (fail)
      have HBo := HB
      clear HS HB s0
      go_loopw [10] (fun vi wr => ∃ q : Nat, vi = .int .i64 q ∧ Hid (q ≤ l.length) ∧ Hid (Below w.heap.size w wr)) (fun vi _ => l.length - (intOf vi).toNat)
      case atStart => exact ⟨0, rfl, Lib.hid (Nat.zero_le _), HBo⟩
      case round =>
        clear HBo
        obtain ⟨q, rfl, HK4, HB⟩ := hrel
        by_cases hlt4 : q < l.length
        · obtain ⟨u, hu⟩ : ∃ u, l[q]? = some u := ⟨_, List.getElem?_eq_getElem hlt4⟩
          obtain ⟨au, U4, f4, hAu, u0, u1, u2, u3, u4, lu, gu⟩ := at_T29 HA.out (q : Int) (by omega) (by omega)
          rw [show rd_T29 l (q : Int) = u from by unfold rd_T29; rw [Int.toNat_natCast, List.getD_eq_getElem?_getD, hu]; rfl] at u0 u1 u2 u3 u4 lu gu
          rw [Int.toNat_natCast] at u0 u1 u2 u3 u4
          subst hAu
          replace u0 := cell_later HB.out u0
          replace u1 := cell_later HB.out u1
          replace u2 := cell_later HB.out u2
          replace u3 := cell_later HB.out u3
          replace u4 := cell_later HB.out u4
          have HPU := Lib.hid (parts_any (tyAll u) U4 f4 0 wr (Kd.C_below gu HB.out) lu)
          have m0 : 0 ≤ (q : Int) := by omega
          have m1 : (q : Int) < l.length := by omega
          have HLT4 := Lib.hid hlt4
          clear hu gu lu
          go_wp2_with (fail)
          refine HPU.out.mono ?_
          rintro e w7 ⟨r7, rfl, hb⟩
          have HB7 := Lib.hid (bel_trans HB.out hb)
          clear hb HPU
          have h61 : (decide (60 < r7) = true ∨ decide (60 < r7) = false) := by cases decide (60 < r7) <;> simp
          rcases h61 with d61 | d61
          · go_wp2_with (fail)
            go_ret
            exact ⟨_, rfl, HB7.out⟩
          · go_wp2_with (fail)
            go_roundw
            case rel => exact ⟨q + 1, by go_num, Lib.hid HLT4.out, HB7⟩
            case measure => have := HLT4.out; simp [intOf]; omega
        · obtain rfl : q = l.length := by have := HK4.out; omega
          go_wp2_with (fail)
          go_ret
          exact ⟨_, rfl, HB.out⟩
end Go.Proofs.Ytbhagjhhgmmcgaa
