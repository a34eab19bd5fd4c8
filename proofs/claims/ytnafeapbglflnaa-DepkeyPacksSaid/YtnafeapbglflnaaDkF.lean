/- The walk of depkey.Unpack. -/
import Derived.Test.YtnafeapbglflnaaDkE
import Derived.Laws.ResultCell
namespace Go.Proofs.Ytnafeapbglflnaa
open Go.RowKit PRef Go.Proofs.YtnafeapbglflnaaW.PrintWords
set_option linter.unusedVariables false

def diagCs (d : S45) : List Value := [.int .i64 d.f0, .int .i64 d.f1]

def diagsF : Nat → ByteArray → Bool → List S45 → List S45 × ByteArray × Bool
  | 0, b, fine, acc => (acc, b, fine)
  | n + 1, b, fine, acc =>
    if fine = true then
      diagsF n (numF (numF b true).2.1 (numF b true).2.2).2.1 (numF (numF b true).2.1 (numF b true).2.2).2.2 (acc ++ [⟨(numF b true).1, (numF (numF b true).2.1 (numF b true).2.2).1⟩])
    else (acc, b, false)

def unpackF (s : ByteArray) : List S45 × Bool × ByteArray × Int :=
  let m := manyF s true
  let d := diagsF m.1 m.2.1 m.2.2 []
  let g := flagF d.2.1 d.2.2
  let t := rtextF g.2.1 g.2.2
  if t.2.2 = true ∧ t.2.1.toList.isEmpty = true ∧ (g.1 || t.1.toList.isEmpty) = true then (d.1, g.1, t.1, 0) else ([], false, ⟨#[]⟩, 170)

theorem info45 : (Try.prog.info? 45).map (fun i => (i.zero, i.size, i.bytes)) = some (some (.agg #[.int .i64 0, .int .i64 0]), 2, 16) := by kernel_rfl

/-- What Unpack's loop bears: k are still to be read. -/
def UnpackRel (w wr : World) (goal : List S45 × ByteArray × Bool) (k : Nat) : Prop :=
  ∃ b fine acc v, wr.heap[w.heap.size + 1]? = some (.cells #[.string b, .bool fine] 60 (0, 0)) ∧ wr.heap[w.heap.size + 1 + 1]? = some (.cells #[v, .bool false, .string ⟨#[]⟩] 34 (0, 0)) ∧ wr.heap[w.heap.size]? = some (.cells #[.slice none 0 0, .bool false, .string ⟨#[]⟩] 34 (0, 0)) ∧ wr.ownsRow (w.heap.size + 3) 45 2 v acc.length (acc.flatMap diagCs) ∧ Below w.heap.size w wr ∧ diagsF k b fine acc = goal ∧ (fine = true → acc.length + k ≤ 5000)

theorem numF_fine {b : ByteArray} {f : Bool} (h : (numF b f).2.2 = true) : f = true := by
  unfold numF at h
  simp only [Bool.and_eq_true] at h
  have h := h.1
  unfold takeF at h
  split at h
  · rename_i h2; exact h2.1
  · cases h

theorem info34 : (Try.prog.info? 34).map (·.size) = some 3 := by kernel_rfl
theorem unpack_end {R : Ending → World → Prop} {a : Act} {w7 : World} {h : Nat} {tv v0 v1 v2 x0 x1 x2 : Value} (hR : w7.heap[h]? = some (.cells #[x0, x1, x2] 34 (0, 0))) (hp : a.tmps.getD 2 undef = .pointer (some ⟨h, 0, none⟩)) (hd : a.defers = [])
    (hQ : R (.returned (.tuple #[.agg #[v0, v1, v2], a.tmps.getD 3 undef])) ((((w7.setCell ⟨h + 1 + 1, 2, none⟩ tv).setCell ⟨h, 0, none⟩ v0).setCell ⟨h, 1, none⟩ v1).setCell ⟨h, 2, none⟩ v2)) :
    bodyPost Try.prog Try.f18 R .ret a ((((w7.setCell ⟨h + 1 + 1, 2, none⟩ tv).setCell ⟨h, 0, none⟩ v0).setCell ⟨h, 1, none⟩ v1).setCell ⟨h, 2, none⟩ v2) := by
  have h1 := (blk_far w7 (h + 1 + 1) 2 h tv (by omega)).trans hR
  have h2 := blk_set (blk_set (blk_set h1 0 v0) 1 v1) 2 v2
  refine bodyPost_ret ((results_cell_tmp (p := 2) (u := 3) (ty := 34) rfl a.tmps Try.prog _).trans ?_) hd hQ
  rw [hp]
  have h3 := run_loadVar_row (P := Try.prog) _ h 34 34 #[v0, v1, v2] (0, 0) _ (h2.trans rfl) Try.underlying34 rfl (info34.trans rfl)
  simp only [asAddr, Sem.run_pure, Result.andThen_ok, h3]

set_option maxRecDepth 100000 in
set_option maxHeartbeats 1000000 in
theorem unpack_any (s : ByteArray) (w : World) :
    Calls Try.prog 18 #[.string s] w fun e w' => ∃ A c, e = .returned (.tuple #[.agg #[.slice A (unpackF s).1.length c, .bool (unpackF s).2.1, .string (unpackF s).2.2.1], .int .i64 (unpackF s).2.2.2]) ∧ (unpackF s).1.length ≤ c ∧ Kd.C k45 w' A (unpackF s).1.length (unpackF s).1 ∧ Below w.heap.size w w' := by
  obtain ⟨i0, hi, hz0, hz1, hz2⟩ := info_parts info45
  have HM5 : Hid ((manyF s true).2.2 = true → (manyF s true).1 ≤ 5000) := Lib.hid (by intro h; unfold manyF at h ⊢; simp only [Bool.and_eq_true, decide_eq_true_eq] at h; exact h.2)
  have HMB : Hid ((manyF s true).1 ≤ 4294967296) := Lib.hid (by
    have h1 := numOf_lt (takeF s true 4).1.data.toList
    have h2 := takeF_size s true 4
    have h3 : (takeF s true 4).1.data.toList.length ≤ 4 := by rw [Array.length_toList]; exact h2
    have h4 : 256 ^ (takeF s true 4).1.data.toList.length ≤ 256 ^ 4 := Nat.pow_le_pow_right (by omega) h3
    unfold manyF numF
    simp only
    omega)
  have HM := Lib.hid (many_any s true (w.heap.size + 1))
  have HU : Hid (unpackF s = _) := Lib.hid (unpackF.eq_1 s)
  generalize manyF s true = m at *
  obtain ⟨m1, m2, m3⟩ := m
  simp only at HM HM5 HMB HU
  generalize hg : diagsF m1 m2 m3 [] = r at *
  have HG := Lib.hid hg
  clear hg
  have H0 := Lib.hid (show (((w.alloc (.cells #[.slice none 0 0, .bool false, .string ⟨#[]⟩] 34)).alloc (.cells #[.string s, .bool true] 60)).alloc (.cells #[.slice none 0 0, .bool false, .string ⟨#[]⟩] 34)).heap[w.heap.size]? = some (.cells #[.slice none 0 0, .bool false, .string ⟨#[]⟩] 34 (0, 0)) from blk_alloc (blk_alloc (blk_new w _) _) _)
  have H1 := Lib.hid (show (((w.alloc (.cells #[.slice none 0 0, .bool false, .string ⟨#[]⟩] 34)).alloc (.cells #[.string s, .bool true] 60)).alloc (.cells #[.slice none 0 0, .bool false, .string ⟨#[]⟩] 34)).heap[w.heap.size + 1]? = some (.cells #[.string s, .bool true] 60 (0, 0)) from blk_alloc (by simpa using blk_new (w.alloc (.cells #[.slice none 0 0, .bool false, .string ⟨#[]⟩] 34)) (.cells #[.string s, .bool true] 60)) _)
  have H2 := Lib.hid (show (((w.alloc (.cells #[.slice none 0 0, .bool false, .string ⟨#[]⟩] 34)).alloc (.cells #[.string s, .bool true] 60)).alloc (.cells #[.slice none 0 0, .bool false, .string ⟨#[]⟩] 34)).heap[w.heap.size + 1 + 1]? = some (.cells #[.slice none 0 0, .bool false, .string ⟨#[]⟩] 34 (0, 0)) from by simpa using blk_new ((w.alloc (.cells #[.slice none 0 0, .bool false, .string ⟨#[]⟩] 34)).alloc (.cells #[.string s, .bool true] 60)) (.cells #[.slice none 0 0, .bool false, .string ⟨#[]⟩] 34))
  have HB0 := Lib.hid (bel_alloc (bel_alloc (bel_alloc (Below.refl w.heap.size w) (.cells #[.slice none 0 0, .bool false, .string ⟨#[]⟩] 34)) (.cells #[.string s, .bool true] 60)) (.cells #[.slice none 0 0, .bool false, .string ⟨#[]⟩] 34))
  go_enter Try.func18, Try.ntmps18
  go_wp2_with (fail)
  refine (HM.out _ H1.out).mono ?_
  rintro e w1 ⟨rfl, hi1, hk1⟩
  have HI1 := Lib.hid hi1
  have HR1 := Lib.hid (hk1.blk H0.out (by omega))
  have HO1 := Lib.hid (hk1.blk H2.out (by omega))
  have HB1 : Hid (Below w.heap.size w w1) := Lib.hid (HB0.out.trans (hk1.below (by simp; omega) (fun k hk => by omega)))
  clear hi1 hk1 HM H0 H1 H2 HB0
  have hmb := HMB.out
  go_wp2_with (fail)
  go_loopw [6] (fun iv wr => ∃ k : Nat, k ≤ m1 ∧ iv = .int .i64 k ∧ UnpackRel w wr r k) (fun iv _ => (intOf iv).toNat)
  case atStart => exact ⟨m1, Nat.le_refl _, rfl, m2, m3, [], .slice none 0 0, HI1.out, HO1.out, HR1.out, World.ownsRow_nil _ _ _ _, HB1.out, HG.out, by simpa using HM5.out⟩
  case round =>
    obtain ⟨k, hk, rfl, b, fine, acc, dv, hI, hO, hR, hown, hbw, hG, h5⟩ := hrel
    clear HI1 HR1 HO1 HB1
    have HI := Lib.hid hI
    have HO := Lib.hid hO
    have HR := Lib.hid hR
    have HOWN := Lib.hid hown
    have HB := Lib.hid hbw
    have HGk := Lib.hid hG
    have HH5 := Lib.hid h5
    have q0 : wr.cell? ⟨w.heap.size + 1, 0, none⟩ = some (.string b) := (blk_cell hI 0).trans rfl
    have q1 : wr.cell? ⟨w.heap.size + 1, 1, none⟩ = some (.bool fine) := (blk_cell hI 1).trans rfl
    have o0 : wr.cell? ⟨w.heap.size + 1 + 1, 0, none⟩ = some dv := (blk_cell hO 0).trans rfl
    have fo0 := blk_free hO 0
    clear hI hO hR hbw hG h5
    by_cases hgo : 0 < k ∧ fine = true
    · obtain ⟨hk0, rfl⟩ := hgo
      obtain ⟨q, rfl⟩ : ∃ q, k = q + 1 := ⟨k - 1, by omega⟩
      have HD : Hid (diagsF q (numF (numF b true).2.1 (numF b true).2.2).2.1 (numF (numF b true).2.1 (numF b true).2.2).2.2 (acc ++ [⟨(numF b true).1, (numF (numF b true).2.1 (numF b true).2.2).1⟩]) = r) := Lib.hid (by rw [← HGk.out]; rfl)
      have HX1 := Lib.hid (rnum_any b true (w.heap.size + 1))
      clear HGk
      generalize numF b true = x1 at *
      obtain ⟨a1, b1, g1⟩ := x1
      simp only at HD HX1
      have HX2 := Lib.hid (rnum_any b1 g1 (w.heap.size + 1))
      have HF := Lib.hid (fun h => numF_fine (b := b1) (f := g1) h)
      generalize numF b1 g1 = x2 at *
      obtain ⟨a2, b2, g2⟩ := x2
      simp only at HD HX2 HF
      have h5k := HH5.out rfl
      have hd1 : decide ((0 : Int) < ((q + 1 : Nat) : Int)) = true := decide_eq_true (by omega)
      go_wp2_with (fail)
      have hrs : w.heap.size + 1 + 1 < wr.heap.size := blk_lt HO.out
      have HNX : Hid (∀ g, dv.ownBlock = some g → ¬ g = w.heap.size + 1) := Lib.hid (fun g hg e => by have := own_base HOWN.out g hg; omega)
      have HNI : Hid (some (w.heap.size + 1) ≠ dv.ownBlock) := Lib.hid (fun e => by have := own_base HOWN.out _ e.symm; omega)
      have HNO : Hid (some (w.heap.size + 1 + 1) ≠ dv.ownBlock) := Lib.hid (fun e => by have := own_base HOWN.out _ e.symm; omega)
      have HNR : Hid (some w.heap.size ≠ dv.ownBlock) := Lib.hid (fun e => by have := own_base HOWN.out _ e.symm; omega)
      have HC4 : Hid (∀ u ∈ [Value.int .i64 a1, .int .i64 a2], u.oneCell' = true) := Lib.hid (by simp [Value.oneCell'])
      go_region_law (first
        | (refine step_append_lies _ rfl _ _ 32 rfl (w.heap.size + 3) 45 i0 (.agg #[.int .i64 0, .int .i64 0]) 2 16 Try.underlying32 hi hz0 hz1 hz2 rfl (by decide) dv acc.length (acc.flatMap diagCs) rfl (HW4.out.alloc _) ⟨w4.heap.size, 0, none⟩ 1 1 [.int .i64 a1, .int .i64 a2] rfl rfl (World.news_of_block (blk_new w4 (.cells #[.int .i64 a1, .int .i64 a2] 45))) HC4.out (by omega) (by unfold maxLen; omega) (by omega) (by simp; omega) _ rfl ?_; intro g5 c5 w5 hown5 hgr5 hat5 hlt5; have I5 := Lib.hid ((hgr5.block _ (by simp; omega) HNI.out).trans (blk_alloc I4.out _)); have hO5 := (hgr5.block _ (by simp; omega) HNO.out).trans (blk_alloc O4.out _); have O5 := Lib.hid hO5; have f5 := blk_free hO5 0; have oo5 : w5.cell? ⟨w.heap.size + 1 + 1, 0, none⟩ = some dv := (blk_cell hO5 0).trans rfl; have R5 := Lib.hid ((hgr5.block _ (by simp; omega) HNR.out).trans (blk_alloc R4.out _)); have HOW5 := Lib.hid hown5; have HGR5 := Lib.hid hgr5; clear hown5 hgr5 hat5 hO5)
        | (go_simp; refine (HX2.out _ I3.out).mono ?_; rintro e w4 ⟨rfl, hi4, hk4⟩; have I4 := Lib.hid hi4; have hO4 := hk4.blk O3.out (by omega); have O4 := Lib.hid hO4; have R4 := Lib.hid (hk4.blk R3.out (by omega)); have o4 : w4.cell? ⟨w.heap.size + 1 + 1, 0, none⟩ = some dv := (blk_cell hO4 0).trans rfl; have HK4 := Lib.hid (HK3.out.same hk4); have hlt4 := blk_lt hO4; have HW4 := Lib.hid (own_keeps (w := wr.drew) HOWN.out HK4.out HNX.out); clear hi4 hk4 hO4)
        | (go_simp; refine (HX1.out wr.drew HI.out).mono ?_; rintro e w3 ⟨rfl, hi3, hk3⟩; have I3 := Lib.hid hi3; have hO3 := hk3.blk HO.out (by omega); have O3 := Lib.hid hO3; have R3 := Lib.hid (hk3.blk HR.out (by omega)); have o3 : w3.cell? ⟨w.heap.size + 1 + 1, 0, none⟩ = some dv := (blk_cell hO3 0).trans rfl; have HK3 := Lib.hid hk3; clear hi3 hk3 hO3))
      all_goals
        have hslw := own_slice HOW5.out
        go_wp2_with (fail)
        go_roundw
        case rel =>
          have hv5 : ∀ k, (Value.slice (some ⟨g5, 0, none⟩) (acc.length + 1) c5).ownBlock = some k → ¬ k = w.heap.size + 1 + 1 := fun k hk e => by have := own_base HOW5.out k hk; omega
          refine ⟨q, by omega, by go_num, b2, g2, acc ++ [⟨a1, a2⟩], _, (blk_far _ _ _ _ _ (by omega)).trans I5.out, by simpa using blk_set O5.out 0 _, (blk_far _ _ _ _ _ (by omega)).trans R5.out, ?_, ?_, HD.out, by intro; simp; omega⟩
          · have h1 := own_kept (w' := w5.setCell ⟨w.heap.size + 1 + 1, 0, none⟩ (.slice (some ⟨g5, 0, none⟩) (acc.length + 1) c5)) HOW5.out (fun k hk => blk_far _ _ _ _ _ (hv5 k hk))
            simpa [diagCs] using h1
          · refine Below.setCell ?_ (by simp only; omega) _
            refine Below.grown (bel_alloc ((bel_drew' HB.out).trans (HK4.out.below (by simp; omega) (fun j hj => by omega))) _) HGR5.out (by simp; omega) (fun j hj => by have := own_base HOWN.out j hj; omega)
        case measure => simp [intOf]
    · have hr : r = (acc, b, fine) := by
        rw [← HGk.out]
        cases k with
        | zero => rfl
        | succ q =>
          cases fine with
          | true => exact absurd ⟨by omega, rfl⟩ hgo
          | false => rfl
      have HC1 := Lib.hid (rflag_any b fine (w.heap.size + 1))
      have HU2 : Hid (unpackF s = _) := Lib.hid (HU.out.trans (by rw [hr]))
      simp only at HU2
      generalize flagF b fine = x1 at *
      obtain ⟨gv, b1, g1⟩ := x1
      simp only at HC1 HU2
      have HC2 := Lib.hid (rtext_any b1 g1 (w.heap.size + 1))
      generalize rtextF b1 g1 = x2 at *
      obtain ⟨tv, b2, g2⟩ := x2
      simp only at HC2 HU2
      clear HG HGk hr HU
      have hkc : (k = 0) ∨ (0 < k ∧ fine = false) := by cases fine <;> simp_all <;> omega
      clear hgo
      rcases hkc with rfl | ⟨hk0, rfl⟩
      all_goals
        go_wp2_with (fail)
        refine (HC1.out wr HI.out).mono ?_
        rintro e w6 ⟨rfl, hi6, hk6⟩
        have hO6 := hk6.blk HO.out (by omega)
        have f6 := blk_free hO6 1
        have c6 : w6.cell? ⟨w.heap.size + 1 + 1, 1, none⟩ = some (.bool false) := (blk_cell hO6 1).trans rfl
        have hO6s := blk_set hO6 1 (.bool gv)
        have hR6s := (blk_far w6 (w.heap.size + 1 + 1) 1 w.heap.size (.bool gv) (by omega)).trans (hk6.blk HR.out (by omega))
        have HO6 := Lib.hid hO6s
        have HR6 := Lib.hid hR6s
        have HI6 := Lib.hid ((blk_far w6 (w.heap.size + 1 + 1) 1 (w.heap.size + 1) (.bool gv) (by omega)).trans hi6)
        have hrs : w.heap.size + 1 + 1 < wr.heap.size := blk_lt HO.out
        have HB6 : Hid (Below w.heap.size w (w6.setCell ⟨w.heap.size + 1 + 1, 1, none⟩ (.bool gv))) := Lib.hid ((HB.out.trans (hk6.below (by omega) (fun j hj => by omega))).setCell (by simp only; omega) _)
        have HW6 : Hid ((w6.setCell ⟨w.heap.size + 1 + 1, 1, none⟩ (.bool gv)).ownsRow (w.heap.size + 3) 45 2 dv acc.length (acc.flatMap diagCs)) := Lib.hid (own_kept (own_keeps HOWN.out hk6 (fun g hg e => by have := own_base HOWN.out g hg; omega)) (fun g hg => blk_far _ _ _ _ _ (by have := own_base HOWN.out g hg; omega)))
        clear hi6 hk6 hO6 hO6s hR6s q0 q1 o0 fo0 HC1
        go_wp2_with (fail)
        refine (HC2.out _ HI6.out).mono ?_
        rintro e w7 ⟨rfl, hi7, hk7⟩
        have hO7 := hk7.blk HO6.out (by omega)
        have hR7 := hk7.blk HR6.out (by omega)
        have f7 := blk_free hO7 2
        have a0 : w7.cell? ⟨w.heap.size + 1 + 1, 0, none⟩ = some dv := (blk_cell hO7 0).trans rfl
        have a1 : w7.cell? ⟨w.heap.size + 1 + 1, 1, none⟩ = some (.bool gv) := (blk_cell hO7 1).trans rfl
        have a2 : w7.cell? ⟨w.heap.size + 1 + 1, 2, none⟩ = some (.string ⟨#[]⟩) := (blk_cell hO7 2).trans rfl
        have b0 : w7.cell? ⟨w.heap.size + 1, 0, none⟩ = some (.string b2) := (blk_cell hi7 0).trans rfl
        have b1 : w7.cell? ⟨w.heap.size + 1, 1, none⟩ = some (.bool g2) := (blk_cell hi7 1).trans rfl
        have r0 : w7.cell? ⟨w.heap.size, 0, none⟩ = some (.slice none 0 0) := (blk_cell hR7 0).trans rfl
        have r1 : w7.cell? ⟨w.heap.size, 1, none⟩ = some (.bool false) := (blk_cell hR7 1).trans rfl
        have r2 : w7.cell? ⟨w.heap.size, 2, none⟩ = some (.string ⟨#[]⟩) := (blk_cell hR7 2).trans rfl
        have fr0 := blk_free hR7 0
        have fr1 := blk_free hR7 1
        have fr2 := blk_free hR7 2
        have HB7 : Hid (Below w.heap.size w w7) := Lib.hid (HB6.out.trans (hk7.below HB6.out.size (fun j hj => by omega)))
        have HW7 := Lib.hid (own_keeps HW6.out hk7 (fun g hg e => by have := own_base HW6.out g hg; omega))
        have HR7 := Lib.hid hR7
        clear hi7 hk7 hO7 hR7 HO6 HR6 HI6 HB6 HW6 HC2
        obtain ⟨A, c, rfl, hc⟩ := own_slice HW7.out
        have HC := Lib.hid hc
        clear hc
        have HERR : Hid (∀ (W : World), unpackF s = ([], false, ⟨#[]⟩, 170) → Below w.heap.size w W → ∃ A c, Ending.returned (.tuple #[.agg #[.slice none 0 0, .bool false, .string ⟨#[]⟩], .int .i64 170]) = .returned (.tuple #[.agg #[.slice A (unpackF s).1.length c, .bool (unpackF s).2.1, .string (unpackF s).2.2.1], .int .i64 (unpackF s).2.2.2]) ∧ (unpackF s).1.length ≤ c ∧ Kd.C k45 W A (unpackF s).1.length (unpackF s).1 ∧ Below w.heap.size w W) := by
          refine Lib.hid fun W e hB => ?_
          rw [e]
          exact ⟨none, 0, rfl, Nat.le_refl _, ⟨rfl, by simp, fun h => absurd h (by simp)⟩, hB⟩
        cases g2 with
        | false =>
          have HE : Hid (unpackF s = ([], false, ⟨#[]⟩, 170)) := Lib.hid (by rw [HU2.out]; exact if_neg (by simp))
          go_wp2_with (fail)
          refine unpack_end HR7.out rfl rfl ?_
          refine HERR.out _ HE.out ?_
          repeat (first | exact HB7.out | refine Below.setCell ?_ (by simp only; omega) _)
        | true =>
          cases hbe : b2.toList.isEmpty with
          | false =>
            have HE : Hid (unpackF s = ([], false, ⟨#[]⟩, 170)) := Lib.hid (by rw [HU2.out]; exact if_neg (by rw [hbe]; simp))
            go_wp2_with (fail)
            refine unpack_end HR7.out rfl rfl ?_
            refine HERR.out _ HE.out ?_
            repeat (first | exact HB7.out | refine Below.setCell ?_ (by simp only; omega) _)
          | true =>
            have HOK : Hid ((gv || tv.toList.isEmpty) = true → unpackF s = (acc, gv, tv, 0)) := Lib.hid (fun h => by rw [HU2.out]; exact if_pos ⟨rfl, hbe, h⟩)
            have HNO : Hid ((gv || tv.toList.isEmpty) = false → unpackF s = ([], false, ⟨#[]⟩, 170)) := Lib.hid (fun h => by rw [HU2.out]; exact if_neg (by rw [h]; simp))
            cases gv with
            | true =>
              have HE := Lib.hid (HOK.out rfl)
              go_wp2_with (fail)
              refine unpack_end HR7.out rfl rfl ?_
              rw [HE.out]
              have HF := Lib.hid (own_kept (w' := ((((w7.setCell ⟨w.heap.size + 1 + 1, 2, none⟩ (.string tv)).setCell ⟨w.heap.size, 0, none⟩ (.slice A acc.length c)).setCell ⟨w.heap.size, 1, none⟩ (.bool true)).setCell ⟨w.heap.size, 2, none⟩ (.string tv))) HW7.out (fun g hg => by
                have h3 := own_base HW7.out g hg
                exact (blk_far _ _ _ _ _ (by omega)).trans ((blk_far _ _ _ _ _ (by omega)).trans ((blk_far _ _ _ _ _ (by omega)).trans (blk_far _ _ _ _ _ (by omega))))))
              obtain ⟨A2, c2, e2, hc2, hC2⟩ := own_C (d := k45) (enc := diagCs) (fun _ => rfl) (fun x _ => k45_mk _ x) HF.out
              injection e2 with e2 _ e3
              subst e2 e3
              refine ⟨A, c, rfl, HC.out, hC2, ?_⟩
              repeat (first | exact HB7.out | refine Below.setCell ?_ (by simp only; omega) _)
            | false =>
              cases hte : tv.toList.isEmpty with
              | true =>
                have HE := Lib.hid (HOK.out hte)
                go_wp2_with (fail)
                refine unpack_end HR7.out rfl rfl ?_
                rw [HE.out]
                have HF := Lib.hid (own_kept (w' := ((((w7.setCell ⟨w.heap.size + 1 + 1, 2, none⟩ (.string tv)).setCell ⟨w.heap.size, 0, none⟩ (.slice A acc.length c)).setCell ⟨w.heap.size, 1, none⟩ (.bool false)).setCell ⟨w.heap.size, 2, none⟩ (.string tv))) HW7.out (fun g hg => by
                  have h3 := own_base HW7.out g hg
                  exact (blk_far _ _ _ _ _ (by omega)).trans ((blk_far _ _ _ _ _ (by omega)).trans ((blk_far _ _ _ _ _ (by omega)).trans (blk_far _ _ _ _ _ (by omega))))))
                obtain ⟨A2, c2, e2, hc2, hC2⟩ := own_C (d := k45) (enc := diagCs) (fun _ => rfl) (fun x _ => k45_mk _ x) HF.out
                injection e2 with e2 _ e3
                subst e2 e3
                refine ⟨A, c, rfl, HC.out, hC2, ?_⟩
                repeat (first | exact HB7.out | refine Below.setCell ?_ (by simp only; omega) _)
              | false =>
                have HE := Lib.hid (HNO.out hte)
                go_wp2_with (fail)
                refine unpack_end HR7.out rfl rfl ?_
                refine HERR.out _ HE.out ?_
                repeat (first | exact HB7.out | refine Below.setCell ?_ (by simp only; omega) _)
end Go.Proofs.Ytnafeapbglflnaa
