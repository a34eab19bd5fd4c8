/- The document's Declared, has: one of a list by its name. The document's Find, Iface, Methods. The document's Iface, Methods, Field. The document's Field. The document's Meets and Assign. -/
import Derived.Test.YtbhagjhhgmmcgaaTyN
import Derived.StillTailTactics
import Derived.Deep.RegionHeld3
import Derived.BigQuiet
import Derived.Test.YtbhagjhhgmmcgaaTyM
import Derived.Test.YtbhagjhhgmmcgaaTyHA
namespace Go.Proofs.Ytbhagjhhgmmcgaa
open Go.RowKit PRef Go.Proofs.YtbhagjhhgmmcgaaW.PrintWords
set_option linter.unusedVariables false

theorem blk_newR (W : World) (o : Obj) (n : Nat) (h : W.heap.size = n) : (W.alloc o).heap[n]? = some o := by subst h; exact blk_new W o
theorem find_drop {α : Type} (q : α → Bool) (l : List α) (k : Nat) (x : α) (hx : l[k]? = some x) : (l.drop k).find? q = if q x = true then some x else (l.drop (k + 1)).find? q := by
  obtain ⟨h1, rfl⟩ := List.getElem?_eq_some_iff.1 hx
  rw [List.drop_eq_getElem_cons h1, List.find?_cons]
  split <;> simp_all
def DclOut (o : Option Dcl) (w0 w : World) (e : Ending) (W : World) : Prop := ∃ A c B d, e = .returned (.tuple #[.agg #[.string (o.getD zDcl).f0, .bool (o.getD zDcl).f1, .slice A (o.getD zDcl).f2.length c, .slice B (o.getD zDcl).f3.length d], .bool o.isSome]) ∧ (o.getD zDcl).f2.length ≤ c ∧ Kd.C kFld w0 A (o.getD zDcl).f2.length (o.getD zDcl).f2 ∧ (o.getD zDcl).f3.length ≤ d ∧ Kd.C kMth w0 B (o.getD zDcl).f3.length (o.getD zDcl).f3 ∧ Below w.heap.size w W
theorem C_nilR {α : Type} (d : Kd α) (W : World) (A : Option Addr) : Kd.C d W A ([] : List α).length [] := ⟨rfl, by simp, fun h => by simp at h⟩
abbrev zMth : Mth := z50
def MthO (o : Option Mth) (w0 w : World) (e : Ending) (W : World) : Prop := ∃ A c B d, e = .returned (.tuple #[.agg #[.string (o.getD zMth).f0, .slice A (o.getD zMth).f1.length c, .int .i64 (o.getD zMth).f2.f0, .string (o.getD zMth).f2.f1, .string (o.getD zMth).f2.f2, .int .i64 (o.getD zMth).f2.f3, .slice B (o.getD zMth).f2.f4.length d], .bool o.isSome]) ∧ (o.getD zMth).f1.length ≤ c ∧ Kd.C kTy w0 A (o.getD zMth).f1.length (o.getD zMth).f1 ∧ (o.getD zMth).f2.f4.length ≤ d ∧ Kd.C kTy w0 B (o.getD zMth).f2.f4.length (o.getD zMth).f2.f4 ∧ Below w.heap.size w W

set_option maxRecDepth 100000 in
set_option maxHeartbeats 4000000 in
theorem declared_any (s : ByteArray) (l : List Dcl) (A1 : Option Addr) (c1 : Nat) (A2 : Option Addr) (n2 c2 : Nat) (nm : ByteArray) (w0 w : World) (hC : Kd.C kDcl w0 A1 l.length l) (hbw : Below w0.heap.size w0 w) (hc : l.length ≤ c1) :
    Calls Try.prog 54 #[.agg #[.string s, .slice A1 l.length c1, .slice A2 n2 c2], .string nm] w (DclOut (l.find? fun d => decide (d.f0 = nm)) w0 w) := by
  have hlm : l.length ≤ 9223372036854775807 := hC.2.1
  have HC := Lib.hid hC
  have HB := Lib.hid (bel_alloc (bel_alloc (Below.refl w.heap.size w) (.cells #[.string s, .slice A1 l.length c1, .slice A2 n2 c2] 74)) (.cells #[.string ⟨#[]⟩, .bool false, .slice none 0 0, .slice none 0 0] 35))
  have HI := Lib.hid (blk_alloc (blk_new w (.cells #[.string s, .slice A1 l.length c1, .slice A2 n2 c2] 74)) (.cells #[.string ⟨#[]⟩, .bool false, .slice none 0 0, .slice none 0 0] 35))
  have HR := Lib.hid ((show ((w.alloc (.cells #[.string s, .slice A1 l.length c1, .slice A2 n2 c2] 74)).alloc (.cells #[.string ⟨#[]⟩, .bool false, .slice none 0 0, .slice none 0 0] 35)).heap[w.heap.size + 1]? = some (.cells #[.string ⟨#[]⟩, .bool false, .slice none 0 0, .slice none 0 0] 35 (0, 0)) from blk_newR _ _ _ (by simp)))
  have HBW := Lib.hid (bel_trans hbw HB.out)
  clear hC hbw
  have b1 := (blk_cell HI.out 1).trans rfl
  have r0 := (blk_cell HR.out 0).trans rfl
  have r1 := (blk_cell HR.out 1).trans rfl
  have r2 := (blk_cell HR.out 2).trans rfl
  have r3 := (blk_cell HR.out 3).trans rfl
  have f0 := blk_free HR.out 0
  have f1 := blk_free HR.out 1
  have f2 := blk_free HR.out 2
  have f3 := blk_free HR.out 3
  go_enter Try.func54, Try.ntmps54
  go_wp2_with (fail)
  generalize hW0 : ((w.alloc (.cells #[.string s, .slice A1 l.length c1, .slice A2 n2 c2] 74)).alloc (.cells #[.string ⟨#[]⟩, .bool false, .slice none 0 0, .slice none 0 0] 35)) = W0 at *
  clear hW0
  go_loop [6] (fun v6 => ∃ k : Nat, v6 = .int .i64 k ∧ Hid (k ≤ l.length ∧ l.find? (fun d => decide (d.f0 = nm)) = (l.drop k).find? (fun d => decide (d.f0 = nm)))) (fun v6 => l.length - (intOf v6).toNat)
  case atStart => exact ⟨0, rfl, Lib.hid ⟨Nat.zero_le _, rfl⟩⟩
  case round =>
    obtain ⟨k, rfl, HK⟩ := hrel
    by_cases hlt : k < l.length
    · obtain ⟨x, hx⟩ : ∃ x, l[k]? = some x := ⟨_, List.getElem?_eq_getElem hlt⟩
      obtain ⟨ad, A2', c2', A3, c3, hA1, x0, x1, x2, x3, g0, g1, g2, g3⟩ := at_T35 HC.out (k : Int) (by omega) (by omega)
      subst hA1
      rw [show rd_T35 l (k : Int) = x from by unfold rd_T35; rw [Int.toNat_natCast, List.getD_eq_getElem?_getD, hx]; rfl] at x0 x1 x2 x3 g0 g1 g2 g3
      rw [Int.toNat_natCast] at x0 x1 x2 x3
      replace x0 := cell_later HBW.out x0
      replace x1 := cell_later HBW.out x1
      replace x2 := cell_later HBW.out x2
      replace x3 := cell_later HBW.out x3
      have HG := Lib.hid (And.intro g0 (And.intro g1 (And.intro g2 g3)))
      have HD := Lib.hid (HK.out.2.trans (find_drop _ l k x hx))
      have i0 : 0 ≤ (k : Int) := by omega
      have i1 : (k : Int) < l.length := by omega
      have HLT := Lib.hid hlt
      clear hx g0 g1 g2 g3
      by_cases hq : x.f0 = nm
      · subst hq
        rw [if_pos (by simp)] at HD
        go_wp2_with (fail)
        have hE := blk_set (blk_set (blk_set (blk_set (HR.out) 0 (.string x.f0)) 1 (.bool x.f1)) 2 (.slice A2' x.f2.length c2')) 3 (.slice A3 x.f3.length c3)
        have hfin := Below.setCell (Below.setCell (Below.setCell (Below.setCell (HB.out) (p := ⟨w.heap.size + 1, 0, none⟩) (Nat.le_add_right _ _) (.string x.f0)) (p := ⟨w.heap.size + 1, 1, none⟩) (Nat.le_add_right _ _) (.bool x.f1)) (p := ⟨w.heap.size + 1, 2, none⟩) (Nat.le_add_right _ _) (.slice A2' x.f2.length c2')) (p := ⟨w.heap.size + 1, 3, none⟩) (Nat.le_add_right _ _) (.slice A3 x.f3.length c3)
        rw [HD.out]
        refine cell_tmp_end rfl (hE.trans rfl) Try.underlying35 sizeDcl' rfl rfl rfl ⟨A2', c2', A3, c3, rfl, HG.out.1, HG.out.2.1, HG.out.2.2.1, HG.out.2.2.2, hfin⟩
      · rw [if_neg (by simp [hq])] at HD
        have s0 := ba_ne hq
        have s1 := ba_neP hq
        clear hq
        go_wp2_with (fail)
        go_round
        case rel => exact ⟨k + 1, by go_num, Lib.hid ⟨HLT.out, HD.out⟩⟩
        case measure => have := HLT.out; simp [intOf]; omega
    · obtain rfl : k = l.length := by have := HK.out.1; omega
      have HE := Lib.hid (show l.find? (fun d => decide (d.f0 = nm)) = none from by have := HK.out.2; rw [List.drop_length] at this; exact this)
      go_wp2_with (fail)
      have hE := blk_set (blk_set (blk_set (blk_set (HR.out) 0 (.string ⟨#[]⟩)) 1 (.bool false)) 2 (.slice none 0 0)) 3 (.slice none 0 0)
      have hfin := Below.setCell (Below.setCell (Below.setCell (Below.setCell (HB.out) (p := ⟨w.heap.size + 1, 0, none⟩) (Nat.le_add_right _ _) (.string ⟨#[]⟩)) (p := ⟨w.heap.size + 1, 1, none⟩) (Nat.le_add_right _ _) (.bool false)) (p := ⟨w.heap.size + 1, 2, none⟩) (Nat.le_add_right _ _) (.slice none 0 0)) (p := ⟨w.heap.size + 1, 3, none⟩) (Nat.le_add_right _ _) (.slice none 0 0)
      rw [HE.out]
      exact cell_tmp_end rfl (hE.trans rfl) Try.underlying35 sizeDcl' rfl rfl rfl ⟨none, 0, none, 0, rfl, Nat.le_refl _, C_nilR _ _ _, Nat.le_refl _, C_nilR _ _ _, hfin⟩
theorem sizeMthR : (Try.prog.info? 50).map (·.size) = some 7 := by kernel_rfl
set_option maxRecDepth 100000 in
set_option maxHeartbeats 4000000 in
theorem has_any (l : List Mth) (A1 : Option Addr) (c1 : Nat) (nm : ByteArray) (w0 w : World) (hC : Kd.C kMth w0 A1 l.length l) (hbw : Below w0.heap.size w0 w) (hc : l.length ≤ c1) :
    Calls Try.prog 61 #[.slice A1 l.length c1, .string nm] w (MthO (l.find? fun d => decide (d.f0 = nm)) w0 w) := by
  have hlm : l.length ≤ 9223372036854775807 := hC.2.1
  have HC := Lib.hid hC
  have HB := Lib.hid (bel_alloc (Below.refl w.heap.size w) (.cells #[.string ⟨#[]⟩, .slice none 0 0, .int .i64 0, .string ⟨#[]⟩, .string ⟨#[]⟩, .int .i64 0, .slice none 0 0] 50))
  have HR := Lib.hid (blk_new w (.cells #[.string ⟨#[]⟩, .slice none 0 0, .int .i64 0, .string ⟨#[]⟩, .string ⟨#[]⟩, .int .i64 0, .slice none 0 0] 50))
  have HBW := Lib.hid (bel_trans hbw HB.out)
  clear hC hbw
  have r0 := (blk_cell HR.out 0).trans rfl
  have r1 := (blk_cell HR.out 1).trans rfl
  have r2 := (blk_cell HR.out 2).trans rfl
  have r3 := (blk_cell HR.out 3).trans rfl
  have r4 := (blk_cell HR.out 4).trans rfl
  have r5 := (blk_cell HR.out 5).trans rfl
  have r6 := (blk_cell HR.out 6).trans rfl
  have f0 := blk_free HR.out 0
  have f1 := blk_free HR.out 1
  have f2 := blk_free HR.out 2
  have f3 := blk_free HR.out 3
  have f4 := blk_free HR.out 4
  have f5 := blk_free HR.out 5
  have f6 := blk_free HR.out 6
  go_enter Try.func61, Try.ntmps61
  go_wp2_with (fail)
  generalize hW0 : (w.alloc (.cells #[.string ⟨#[]⟩, .slice none 0 0, .int .i64 0, .string ⟨#[]⟩, .string ⟨#[]⟩, .int .i64 0, .slice none 0 0] 50)) = W0 at *
  clear hW0
  go_loop [6] (fun v6 => ∃ k : Nat, v6 = .int .i64 k ∧ Hid (k ≤ l.length ∧ l.find? (fun d => decide (d.f0 = nm)) = (l.drop k).find? (fun d => decide (d.f0 = nm)))) (fun v6 => l.length - (intOf v6).toNat)
  case atStart => exact ⟨0, rfl, Lib.hid ⟨Nat.zero_le _, rfl⟩⟩
  case round =>
    obtain ⟨k, rfl, HK⟩ := hrel
    by_cases hlt : k < l.length
    · obtain ⟨x, hx⟩ : ∃ x, l[k]? = some x := ⟨_, List.getElem?_eq_getElem hlt⟩
      obtain ⟨ad, A2', c2', A3, c3, hA1, x0, x1, x2, x3, x4, x5, x6, g0, g1, g2, g3⟩ := at_T50 HC.out (k : Int) (by omega) (by omega)
      subst hA1
      rw [show rd_T50 l (k : Int) = x from by unfold rd_T50; rw [Int.toNat_natCast, List.getD_eq_getElem?_getD, hx]; rfl] at x0 x1 x2 x3 x4 x5 x6 g0 g1 g2 g3
      rw [Int.toNat_natCast] at x0 x1 x2 x3 x4 x5 x6
      replace x0 := cell_later HBW.out x0
      replace x1 := cell_later HBW.out x1
      replace x2 := cell_later HBW.out x2
      replace x3 := cell_later HBW.out x3
      replace x4 := cell_later HBW.out x4
      replace x5 := cell_later HBW.out x5
      replace x6 := cell_later HBW.out x6
      have HG := Lib.hid (And.intro g0 (And.intro g1 (And.intro g2 g3)))
      have HD := Lib.hid (HK.out.2.trans (find_drop _ l k x hx))
      have i0 : 0 ≤ (k : Int) := by omega
      have i1 : (k : Int) < l.length := by omega
      have HLT := Lib.hid hlt
      clear hx g0 g1 g2 g3
      by_cases hq : x.f0 = nm
      · subst hq
        rw [if_pos (by simp)] at HD
        go_wp2_with (fail)
        have hE := blk_set (blk_set (blk_set (blk_set (blk_set (blk_set (blk_set (HR.out) 0 (.string x.f0)) 1 (.slice A2' x.f1.length c2')) 2 (.int .i64 x.f2.f0)) 3 (.string x.f2.f1)) 4 (.string x.f2.f2)) 5 (.int .i64 x.f2.f3)) 6 (.slice A3 x.f2.f4.length c3)
        have hfin := Below.setCell (Below.setCell (Below.setCell (Below.setCell (Below.setCell (Below.setCell (Below.setCell (HB.out) (p := ⟨w.heap.size, 0, none⟩) (Nat.le_refl _) (.string x.f0)) (p := ⟨w.heap.size, 1, none⟩) (Nat.le_refl _) (.slice A2' x.f1.length c2')) (p := ⟨w.heap.size, 2, none⟩) (Nat.le_refl _) (.int .i64 x.f2.f0)) (p := ⟨w.heap.size, 3, none⟩) (Nat.le_refl _) (.string x.f2.f1)) (p := ⟨w.heap.size, 4, none⟩) (Nat.le_refl _) (.string x.f2.f2)) (p := ⟨w.heap.size, 5, none⟩) (Nat.le_refl _) (.int .i64 x.f2.f3)) (p := ⟨w.heap.size, 6, none⟩) (Nat.le_refl _) (.slice A3 x.f2.f4.length c3)
        rw [HD.out]
        exact cell_tmp_end rfl (hE.trans rfl) Try.underlying50 sizeMthR rfl rfl rfl ⟨A2', c2', A3, c3, rfl, HG.out.1, HG.out.2.1, HG.out.2.2.1, HG.out.2.2.2, hfin⟩
      · rw [if_neg (by simp [hq])] at HD
        have s0 := ba_ne hq
        have s1 := ba_neP hq
        clear hq
        go_wp2_with (fail)
        go_round
        case rel => exact ⟨k + 1, by go_num, Lib.hid ⟨HLT.out, HD.out⟩⟩
        case measure => have := HLT.out; simp [intOf]; omega
    · obtain rfl : k = l.length := by have := HK.out.1; omega
      have HE := Lib.hid (show l.find? (fun d => decide (d.f0 = nm)) = none from by have := HK.out.2; rw [List.drop_length] at this; exact this)
      go_wp2_with (fail)
      have hE := blk_set (blk_set (blk_set (blk_set (blk_set (blk_set (blk_set (HR.out) 0 (.string ⟨#[]⟩)) 1 (.slice none 0 0)) 2 (.int .i64 0)) 3 (.string ⟨#[]⟩)) 4 (.string ⟨#[]⟩)) 5 (.int .i64 0)) 6 (.slice none 0 0)
      have hfin := Below.setCell (Below.setCell (Below.setCell (Below.setCell (Below.setCell (Below.setCell (Below.setCell (HB.out) (p := ⟨w.heap.size, 0, none⟩) (Nat.le_refl _) (.string ⟨#[]⟩)) (p := ⟨w.heap.size, 1, none⟩) (Nat.le_refl _) (.slice none 0 0)) (p := ⟨w.heap.size, 2, none⟩) (Nat.le_refl _) (.int .i64 0)) (p := ⟨w.heap.size, 3, none⟩) (Nat.le_refl _) (.string ⟨#[]⟩)) (p := ⟨w.heap.size, 4, none⟩) (Nat.le_refl _) (.string ⟨#[]⟩)) (p := ⟨w.heap.size, 5, none⟩) (Nat.le_refl _) (.int .i64 0)) (p := ⟨w.heap.size, 6, none⟩) (Nat.le_refl _) (.slice none 0 0)
      rw [HE.out]
      exact cell_tmp_end rfl (hE.trans rfl) Try.underlying50 sizeMthR rfl rfl rfl ⟨none, 0, none, 0, rfl, Nat.le_refl _, C_nilR _ _ _, Nat.le_refl _, C_nilR _ _ _, hfin⟩
end Go.Proofs.Ytbhagjhhgmmcgaa
namespace Go.Proofs.Ytbhagjhhgmmcgaa
open Go.RowKit PRef Go.Proofs.YtbhagjhhgmmcgaaW.PrintWords
set_option linter.unusedVariables false

theorem bcellR {W w1 : World} (hb : Below W.heap.size W w1) : (∀ b o, b < W.heap.size → w1.cell? ⟨b, o, none⟩ = W.cell? ⟨b, o, none⟩) ∧ (∀ b o, b < W.heap.size → w1.frozen? ⟨b, o, none⟩ = W.frozen? ⟨b, o, none⟩) :=
  ⟨fun b o h => hb.cell (p := ⟨b, o, none⟩) h, fun b o h => hb.frozen (p := ⟨b, o, none⟩) h⟩
theorem DclOut.none {w0 w W : World} (h : Below w.heap.size w W) : DclOut none w0 w (.returned (.tuple #[.agg #[.string ⟨#[]⟩, .bool false, .slice none 0 0, .slice none 0 0], .bool false])) W := ⟨Option.none, 0, Option.none, 0, rfl, Nat.le_refl _, C_nilR _ _ _, Nat.le_refl _, C_nilR _ _ _, h⟩
theorem findP_not {W : List Ifc} {t : Ty} (h : ¬ t.f0 = 4) : findP W t = none := by
  unfold findP
  rw [List.find?_eq_none.2 (by intro p _; simp [h])]
  rfl
set_option maxRecDepth 100000 in
set_option maxHeartbeats 4000000 in
theorem ref_find0 (a : ScA) (W : List Ifc) (B : List Ty) (t : Ty) (A : Option Addr) (c : Nat) (w0 w : World) (hW : ScC a W B w0) (hbw : Below w0.heap.size w0 w) :
    Calls Try.prog 17 #[scV a W B, tyV t A c] w (DclOut (findP W t) w0 w) := by
  by_cases h4 : t.f0 = 4
  · obtain ⟨t0, t1, t2, t3, t4⟩ := t
    dsimp only at h4
    subst h4
    have HWL := Lib.hid hW.w_
    have HBW := Lib.hid hbw
    have hlm : W.length ≤ 9223372036854775807 := hW.w_.2.1
    have hwc := hW.wc
    have HB := Lib.hid (bel_alloc (bel_alloc (bel_alloc (Below.refl w.heap.size w) (.cells #[.slice a.AW W.length a.cW, .slice a.AI a.nI a.cI, .slice a.AN a.nN a.cN, .slice a.AB B.length a.cB, .slice a.AV a.nV a.cV] 27)) (.cells #[.int .i64 4, .string t1, .string t2, .int .i64 t3, .slice A t4.length c] 29)) (.cells #[.string ⟨#[]⟩, .bool false, .slice none 0 0, .slice none 0 0] 35))
    have HS := Lib.hid (blk_alloc (blk_alloc (blk_new w (.cells #[.slice a.AW W.length a.cW, .slice a.AI a.nI a.cI, .slice a.AN a.nN a.cN, .slice a.AB B.length a.cB, .slice a.AV a.nV a.cV] 27)) (.cells #[.int .i64 4, .string t1, .string t2, .int .i64 t3, .slice A t4.length c] 29)) (.cells #[.string ⟨#[]⟩, .bool false, .slice none 0 0, .slice none 0 0] 35))
    have HT := Lib.hid (blk_alloc ((show ((w.alloc (.cells #[.slice a.AW W.length a.cW, .slice a.AI a.nI a.cI, .slice a.AN a.nN a.cN, .slice a.AB B.length a.cB, .slice a.AV a.nV a.cV] 27)).alloc (.cells #[.int .i64 4, .string t1, .string t2, .int .i64 t3, .slice A t4.length c] 29)).heap[w.heap.size + 1]? = some (.cells #[.int .i64 4, .string t1, .string t2, .int .i64 t3, .slice A t4.length c] 29 (0, 0)) from blk_newR _ _ _ (by simp))) (.cells #[.string ⟨#[]⟩, .bool false, .slice none 0 0, .slice none 0 0] 35))
    have HR := Lib.hid ((show (((w.alloc (.cells #[.slice a.AW W.length a.cW, .slice a.AI a.nI a.cI, .slice a.AN a.nN a.cN, .slice a.AB B.length a.cB, .slice a.AV a.nV a.cV] 27)).alloc (.cells #[.int .i64 4, .string t1, .string t2, .int .i64 t3, .slice A t4.length c] 29)).alloc (.cells #[.string ⟨#[]⟩, .bool false, .slice none 0 0, .slice none 0 0] 35)).heap[w.heap.size + 1 + 1]? = some (.cells #[.string ⟨#[]⟩, .bool false, .slice none 0 0, .slice none 0 0] 35 (0, 0)) from blk_newR _ _ _ (by simp)))
    clear hW hbw
    simp only [scV, tyV] at *
    go_enter Try.func17, Try.ntmps17
    go_wp2_with (fail)
    go_loopg [6] (W.length + 1) (fun kq v6 Wr => ∃ k : Nat, v6 = .int .i64 k ∧ Hid (kq + k = W.length + 1 ∧ k ≤ W.length ∧ findP W ⟨4, t1, t2, t3, t4⟩ = ((W.drop k).find? fun p => decide (p.f0 = t1 ∧ (4 : Int) = 4)).bind fun p => p.f1.find? fun d => decide (d.f0 = t2)) ∧ Hid (Wr.heap[w.heap.size]? = some (.cells #[.slice a.AW W.length a.cW, .slice a.AI a.nI a.cI, .slice a.AN a.nN a.cN, .slice a.AB B.length a.cB, .slice a.AV a.nV a.cV] 27 (0, 0))) ∧ Hid (Wr.heap[w.heap.size + 1]? = some (.cells #[.int .i64 4, .string t1, .string t2, .int .i64 t3, .slice A t4.length c] 29 (0, 0))) ∧ Hid (Wr.heap[w.heap.size + 1 + 1]? = some (.cells #[.string ⟨#[]⟩, .bool false, .slice none 0 0, .slice none 0 0] 35 (0, 0))) ∧ Hid (Below w.heap.size w Wr))
    case atStart => exact ⟨0, rfl, Lib.hid ⟨rfl, Nat.zero_le _, rfl⟩, HS, HT, HR, HB⟩
    case round =>
      clear HS HT HR HB
      obtain ⟨k, rfl, HK, HS, HT, HR, HB⟩ := hrel
      have s0 := (blk_cell HS.out 0).trans rfl
      have t1' := (blk_cell HT.out 1).trans rfl
      have t2' := (blk_cell HT.out 2).trans rfl
      by_cases hlt : k < W.length
      · obtain ⟨x, hx⟩ : ∃ x, W[k]? = some x := ⟨_, List.getElem?_eq_getElem hlt⟩
        obtain ⟨ad, A1, c1, A2, c2, hA1, x0, x1, x2, g0, g1, g2, g3⟩ := at_T74 HWL.out (k : Int) (by omega) (by omega)
        rw [show rd_T74 W (k : Int) = x from by unfold rd_T74; rw [Int.toNat_natCast, List.getD_eq_getElem?_getD, hx]; rfl] at x0 x1 x2 g0 g1 g2 g3
        rw [Int.toNat_natCast] at x0 x1 x2
        replace x0 := cell_later (bel_trans HBW.out HB.out) x0
        replace x1 := cell_later (bel_trans HBW.out HB.out) x1
        replace x2 := cell_later (bel_trans HBW.out HB.out) x2
        have HD := Lib.hid (HK.out.2.2.trans (congrArg (fun o => Option.bind o fun p : Ifc => p.f1.find? fun d => decide (d.f0 = t2)) (find_drop _ W k x hx)))
        have HDC := Lib.hid (fun (Wx : World) (hb : Below wr.heap.size wr Wx) => declared_any x.f0 x.f1 A1 c1 A2 x.f2.length c2 t2 w0 Wx g1 (bel_trans (bel_trans HBW.out HB.out) hb) g0)
        obtain ⟨AW, cW, AI, nI, cI, AN, nN, cN, AB, cB, AV, nV, cV⟩ := a
        simp only at hA1 s0 hwc HS
        subst hA1
        have i0 : 0 ≤ (k : Int) := by omega
        have i1 : (k : Int) < W.length := by omega
        have HLT := Lib.hid hlt
        clear hx g0 g1 g2 g3 HWL
        by_cases hq : x.f0 = t1
        · subst hq
          rw [if_pos (by simp)] at HD
          have r0 := (blk_cell HR.out 0).trans rfl
          have r1 := (blk_cell HR.out 1).trans rfl
          have r2 := (blk_cell HR.out 2).trans rfl
          have r3 := (blk_cell HR.out 3).trans rfl
          have f0 := blk_free HR.out 0
          have f1 := blk_free HR.out 1
          have f2 := blk_free HR.out 2
          have f3 := blk_free HR.out 3
          have hr0 := blk_lt HR.out
          go_wp2_with (fail)
          go_quiet (fail)
          go_wp2_with (fail)
          go_region_law (first | (go_simp; go_at_call 54; refine (HDC.out _ (by repeat (first | exact Below.refl _ _ | refine bel_drew ?_ | refine bel_drewN ?_ _))).mono ?_; rintro e w5 ⟨A', c', B', d', rfl, hc', kA, hd', kB, hb5⟩; have hR5 := blk_later hb5 HR.out; have q0 := (blk_cell hR5 0).trans rfl; have q1 := (blk_cell hR5 1).trans rfl; have q2 := (blk_cell hR5 2).trans rfl; have q3 := (blk_cell hR5 3).trans rfl; have p0 := blk_free hR5 0; have p1 := blk_free hR5 1; have p2 := blk_free hR5 2; have p3 := blk_free hR5 3))
          all_goals
            go_wp2_with (fail)
            have hE := blk_set (blk_set (blk_set (blk_set (hR5) 0 (.string (Option.getD (List.find? (fun d => decide (d.f0 = t2)) x.f1) zDcl).f0)) 1 (.bool (Option.getD (List.find? (fun d => decide (d.f0 = t2)) x.f1) zDcl).f1)) 2 (.slice A' (Option.getD (List.find? (fun d => decide (d.f0 = t2)) x.f1) zDcl).f2.length c')) 3 (.slice B' (Option.getD (List.find? (fun d => decide (d.f0 = t2)) x.f1) zDcl).f3.length d')
            have hfin := Below.setCell (Below.setCell (Below.setCell (Below.setCell (bel_trans HB.out (bel_trans (by repeat (first | exact Below.refl _ _ | refine bel_drew ?_ | refine bel_drewN ?_ _)) hb5)) (p := ⟨w.heap.size + 1 + 1, 0, none⟩) (Nat.le_add_right_of_le (Nat.le_add_right _ _)) (.string (Option.getD (List.find? (fun d => decide (d.f0 = t2)) x.f1) zDcl).f0)) (p := ⟨w.heap.size + 1 + 1, 1, none⟩) (Nat.le_add_right_of_le (Nat.le_add_right _ _)) (.bool (Option.getD (List.find? (fun d => decide (d.f0 = t2)) x.f1) zDcl).f1)) (p := ⟨w.heap.size + 1 + 1, 2, none⟩) (Nat.le_add_right_of_le (Nat.le_add_right _ _)) (.slice A' (Option.getD (List.find? (fun d => decide (d.f0 = t2)) x.f1) zDcl).f2.length c')) (p := ⟨w.heap.size + 1 + 1, 3, none⟩) (Nat.le_add_right_of_le (Nat.le_add_right _ _)) (.slice B' (Option.getD (List.find? (fun d => decide (d.f0 = t2)) x.f1) zDcl).f3.length d')
            rw [HD.out]
            refine cell_tmp_end rfl (hE.trans rfl) Try.underlying35 sizeDcl' rfl rfl rfl ?_
            exact ⟨A', c', B', d', rfl, hc', kA, hd', kB, hfin⟩
        · rw [if_neg (by simp [hq])] at HD
          have e0 := ba_ne hq
          have e1 := ba_neP hq
          clear hq
          go_wp2_with (fail)
          go_quiet (fail)
          go_wp2_with (fail)
          go_roundg (gk - 1)
          case measure => have := HK.out.1; have := HK.out.2.1; omega
          case rel => exact ⟨k + 1, by go_num, Lib.hid ⟨by have := HK.out.1; have := HLT.out; omega, HLT.out, HD.out⟩, Lib.hid (blk_later (bel_drewN (Below.refl _ _) _) HS.out), Lib.hid (blk_later (bel_drewN (Below.refl _ _) _) HT.out), Lib.hid (blk_later (bel_drewN (Below.refl _ _) _) HR.out), Lib.hid (bel_drewN HB.out _)⟩
      · obtain rfl : k = W.length := by have := HK.out.2.1; omega
        have HE := Lib.hid (show findP W ⟨4, t1, t2, t3, t4⟩ = none from by have := HK.out.2.2; rw [List.drop_length] at this; exact this)
        have r0 := (blk_cell HR.out 0).trans rfl
        have r1 := (blk_cell HR.out 1).trans rfl
        have r2 := (blk_cell HR.out 2).trans rfl
        have r3 := (blk_cell HR.out 3).trans rfl
        have f0 := blk_free HR.out 0
        have f1 := blk_free HR.out 1
        have f2 := blk_free HR.out 2
        have f3 := blk_free HR.out 3
        go_wp2_with (fail)
        have hE := blk_set (blk_set (blk_set (blk_set (HR.out) 0 (.string ⟨#[]⟩)) 1 (.bool false)) 2 (.slice none 0 0)) 3 (.slice none 0 0)
        have hfin := Below.setCell (Below.setCell (Below.setCell (Below.setCell (HB.out) (p := ⟨w.heap.size + 1 + 1, 0, none⟩) (Nat.le_add_right_of_le (Nat.le_add_right _ _)) (.string ⟨#[]⟩)) (p := ⟨w.heap.size + 1 + 1, 1, none⟩) (Nat.le_add_right_of_le (Nat.le_add_right _ _)) (.bool false)) (p := ⟨w.heap.size + 1 + 1, 2, none⟩) (Nat.le_add_right_of_le (Nat.le_add_right _ _)) (.slice none 0 0)) (p := ⟨w.heap.size + 1 + 1, 3, none⟩) (Nat.le_add_right_of_le (Nat.le_add_right _ _)) (.slice none 0 0)
        rw [HE.out]
        refine cell_tmp_end rfl (hE.trans rfl) Try.underlying35 sizeDcl' rfl rfl rfl ?_
        exact DclOut.none hfin
  · have e4 : (t.f0 != 4) = true := by simp [h4]
    rw [findP_not h4]
    have HB := Lib.hid (bel_alloc (bel_alloc (bel_alloc (Below.refl w.heap.size w) (.cells #[.slice a.AW W.length a.cW, .slice a.AI a.nI a.cI, .slice a.AN a.nN a.cN, .slice a.AB B.length a.cB, .slice a.AV a.nV a.cV] 27)) (.cells #[.int .i64 t.f0, .string t.f1, .string t.f2, .int .i64 t.f3, .slice A t.f4.length c] 29)) (.cells #[.string ⟨#[]⟩, .bool false, .slice none 0 0, .slice none 0 0] 35))
    have HS := Lib.hid (blk_alloc (blk_alloc (blk_new w (.cells #[.slice a.AW W.length a.cW, .slice a.AI a.nI a.cI, .slice a.AN a.nN a.cN, .slice a.AB B.length a.cB, .slice a.AV a.nV a.cV] 27)) (.cells #[.int .i64 t.f0, .string t.f1, .string t.f2, .int .i64 t.f3, .slice A t.f4.length c] 29)) (.cells #[.string ⟨#[]⟩, .bool false, .slice none 0 0, .slice none 0 0] 35))
    have HT := Lib.hid (blk_alloc ((show ((w.alloc (.cells #[.slice a.AW W.length a.cW, .slice a.AI a.nI a.cI, .slice a.AN a.nN a.cN, .slice a.AB B.length a.cB, .slice a.AV a.nV a.cV] 27)).alloc (.cells #[.int .i64 t.f0, .string t.f1, .string t.f2, .int .i64 t.f3, .slice A t.f4.length c] 29)).heap[w.heap.size + 1]? = some (.cells #[.int .i64 t.f0, .string t.f1, .string t.f2, .int .i64 t.f3, .slice A t.f4.length c] 29 (0, 0)) from blk_newR _ _ _ (by simp))) (.cells #[.string ⟨#[]⟩, .bool false, .slice none 0 0, .slice none 0 0] 35))
    have HR := Lib.hid ((show (((w.alloc (.cells #[.slice a.AW W.length a.cW, .slice a.AI a.nI a.cI, .slice a.AN a.nN a.cN, .slice a.AB B.length a.cB, .slice a.AV a.nV a.cV] 27)).alloc (.cells #[.int .i64 t.f0, .string t.f1, .string t.f2, .int .i64 t.f3, .slice A t.f4.length c] 29)).alloc (.cells #[.string ⟨#[]⟩, .bool false, .slice none 0 0, .slice none 0 0] 35)).heap[w.heap.size + 1 + 1]? = some (.cells #[.string ⟨#[]⟩, .bool false, .slice none 0 0, .slice none 0 0] 35 (0, 0)) from blk_newR _ _ _ (by simp)))
    clear hW h4 hbw
    simp only [scV, tyV] at *
    have r0 := (blk_cell HR.out 0).trans rfl
    have r1 := (blk_cell HR.out 1).trans rfl
    have r2 := (blk_cell HR.out 2).trans rfl
    have r3 := (blk_cell HR.out 3).trans rfl
    have f0 := blk_free HR.out 0
    have f1 := blk_free HR.out 1
    have f2 := blk_free HR.out 2
    have f3 := blk_free HR.out 3
    go_enter Try.func17, Try.ntmps17
    go_wp2_with (fail)
    refine cell_tmp_end rfl (HR.out.trans rfl) Try.underlying35 sizeDcl' rfl rfl rfl ?_
    exact DclOut.none HB.out
theorem ref_find_any (a : ScA) (W : List Ifc) (B : List Ty) (t : Ty) (A : Option Addr) (c : Nat) (w0 w : World) (hW : ScC a W B w0) (hbw : Below w0.heap.size w0 w) :
    Calls Try.prog 17 #[scV a W B, tyV t A c] w fun e w' => ∃ A' c' B' d', e = .returned (.tuple #[dclV ((findP W t).getD zDcl) A' c' B' d', .bool (findP W t).isSome]) ∧ ((findP W t).getD zDcl).f2.length ≤ c' ∧ Kd.C kFld w0 A' ((findP W t).getD zDcl).f2.length ((findP W t).getD zDcl).f2 ∧ ((findP W t).getD zDcl).f3.length ≤ d' ∧ Kd.C kMth w0 B' ((findP W t).getD zDcl).f3.length ((findP W t).getD zDcl).f3 ∧ Below w.heap.size w w' := ref_find0 a W B t A c w0 w hW hbw
end Go.Proofs.Ytbhagjhhgmmcgaa
namespace Go.Proofs.Ytbhagjhhgmmcgaa
open Go.RowKit PRef Go.Proofs.YtbhagjhhgmmcgaaW.PrintWords
set_option linter.unusedVariables false

set_option maxRecDepth 100000 in
set_option maxHeartbeats 4000000 in
theorem ref_iface_any (a : ScA) (W : List Ifc) (B : List Ty) (t : Ty) (A : Option Addr) (c : Nat) (w : World) (hW : ScC a W B w) :
    Calls Try.prog 26 #[scV a W B, tyV t A c] w fun e w' => e = .returned (.bool (ifaceP W t)) ∧ Below w.heap.size w w' := by
  have HC := Lib.hid (ref_find_any a W B t A c w _ hW (id (bel_alloc (bel_alloc (Below.refl w.heap.size w) (.cells #[.slice a.AW W.length a.cW, .slice a.AI a.nI a.cI, .slice a.AN a.nN a.cN, .slice a.AB B.length a.cB, .slice a.AV a.nV a.cV] 27)) (.cells #[.int .i64 t.f0, .string t.f1, .string t.f2, .int .i64 t.f3, .slice A t.f4.length c] 29))))
  have HB := Lib.hid (bel_alloc (bel_alloc (Below.refl w.heap.size w) (.cells #[.slice a.AW W.length a.cW, .slice a.AI a.nI a.cI, .slice a.AN a.nN a.cN, .slice a.AB B.length a.cB, .slice a.AV a.nV a.cV] 27)) (.cells #[.int .i64 t.f0, .string t.f1, .string t.f2, .int .i64 t.f3, .slice A t.f4.length c] 29))
  unfold ifaceP
  generalize (findP W t).getD zDcl = x at *
  generalize (findP W t).isSome = b at *
  clear hW
  simp only [scV, tyV, dclV] at *
  cases b with
  | true =>
    go_enter Try.func26, Try.ntmps26
    go_wp2_with (fail)
    refine HC.out.mono ?_
    rintro e w1 ⟨A1, c1, B1, d1, rfl, _, _, _, _, hb⟩
    replace HB := Lib.hid (bel_alloc (bel_trans HB.out hb) (.cells #[.string x.f0, .bool x.f1, .slice A1 x.f2.length c1, .slice B1 x.f3.length d1] 35))
    clear hb
    go_wp2_with (fail)
    go_ret
    exact ⟨rfl, HB.out⟩
  | false =>
    go_enter Try.func26, Try.ntmps26
    go_wp2_with (fail)
    refine HC.out.mono ?_
    rintro e w1 ⟨A1, c1, B1, d1, rfl, _, _, _, _, hb⟩
    replace HB := Lib.hid (bel_alloc (bel_trans HB.out hb) (.cells #[.string x.f0, .bool x.f1, .slice A1 x.f2.length c1, .slice B1 x.f3.length d1] 35))
    clear hb
    go_wp2_with (fail)
    go_ret
    exact ⟨rfl, HB.out⟩

def MthR (l : List Mth) (w : World) (e : Ending) (w' : World) : Prop := ∃ A' c', e = .returned (.slice A' l.length c') ∧ l.length ≤ c' ∧ Kd.C kMth w A' l.length l ∧ Below w.heap.size w w'
theorem MthR.nil {w w' : World} (h : Below w.heap.size w w') : MthR [] w (.returned (.slice none 0 0)) w' := ⟨none, 0, rfl, Nat.le_refl _, ⟨rfl, by simp, fun h => by simp at h⟩, h⟩
set_option maxRecDepth 100000 in
set_option maxHeartbeats 4000000 in
theorem ref_methods_any (a : ScA) (W : List Ifc) (B : List Ty) (t : Ty) (A : Option Addr) (c : Nat) (w : World) (hW : ScC a W B w) (hA : Kd.C kTy w A t.f4.length t.f4) (hc : t.f4.length ≤ c) :
    Calls Try.prog 24 #[scV a W B, tyV t A c] w (MthR (methodsP W B t) w) := by
  have hb0 := bel_alloc (bel_alloc (Below.refl w.heap.size w) (.cells #[.slice a.AW W.length a.cW, .slice a.AI a.nI a.cI, .slice a.AN a.nN a.cN, .slice a.AB B.length a.cB, .slice a.AV a.nV a.cV] 27)) (.cells #[.int .i64 t.f0, .string t.f1, .string t.f2, .int .i64 t.f3, .slice A t.f4.length c] 29)
  have HB := Lib.hid hb0
  have HW := Lib.hid (hW.later hb0)
  have hs := blk_alloc (blk_new w (.cells #[.slice a.AW W.length a.cW, .slice a.AI a.nI a.cI, .slice a.AN a.nN a.cN, .slice a.AB B.length a.cB, .slice a.AV a.nV a.cV] 27)) (.cells #[.int .i64 t.f0, .string t.f1, .string t.f2, .int .i64 t.f3, .slice A t.f4.length c] 29)
  have ht : ((w.alloc (.cells #[.slice a.AW W.length a.cW, .slice a.AI a.nI a.cI, .slice a.AN a.nN a.cN, .slice a.AB B.length a.cB, .slice a.AV a.nV a.cV] 27)).alloc (.cells #[.int .i64 t.f0, .string t.f1, .string t.f2, .int .i64 t.f3, .slice A t.f4.length c] 29)).heap[w.heap.size + 1]? = some (.cells #[.int .i64 t.f0, .string t.f1, .string t.f2, .int .i64 t.f3, .slice A t.f4.length c] 29 (0, 0)) := by simpa using blk_new (w.alloc (.cells #[.slice a.AW W.length a.cW, .slice a.AI a.nI a.cI, .slice a.AN a.nN a.cN, .slice a.AB B.length a.cB, .slice a.AV a.nV a.cV] 27)) (.cells #[.int .i64 t.f0, .string t.f1, .string t.f2, .int .i64 t.f3, .slice A t.f4.length c] 29)
  have HS := Lib.hid hs
  have HT := Lib.hid ht
  have hlB : B.length ≤ 9223372036854775807 := hW.b_.2.1
  unfold methodsP
  by_cases h6 : t.f0 = 6
  · have e6 : (t.f0 == 6) = true := by simp [h6]
    have s3 := (blk_cell hs 3).trans rfl
    have t3 := (blk_cell ht 3).trans rfl
    rw [if_pos h6]
    by_cases h0 : t.f3 < 0
    · have d0 : decide (t.f3 < 0) = true := decide_eq_true h0
      rw [if_pos (.inl h0)]
      clear hW hs ht h6 hA hc hb0
      simp only [scV, tyV] at *
      go_enter Try.func24, Try.ntmps24
      go_wp2_with (fail)
      go_ret
      exact MthR.nil HB.out
    · have d0 : decide (t.f3 < 0) = false := decide_eq_false h0
      have h0' : 0 ≤ t.f3 := by omega
      by_cases h1 : (B.length : Int) ≤ t.f3
      · have d1 : decide ((B.length : Int) ≤ t.f3) = true := decide_eq_true h1
        rw [if_pos (.inr h1)]
        clear hW hs ht h6 hA hc hb0
        simp only [scV, tyV] at *
        go_enter Try.func24, Try.ntmps24
        go_wp2_with (fail)
        go_ret
        exact MthR.nil HB.out
      · have d1 : decide ((B.length : Int) ≤ t.f3) = false := decide_eq_false h1
        have h1' : t.f3 < (B.length : Int) := by omega
        rw [if_neg (by omega)]
        have hWd := (hW.later hb0).later (bel_drew (Below.refl _ _))
        obtain ⟨ad, A4, c4, hAB, x0, x1, x2, x3, x4, l4, g4⟩ := at_T29 (hW.later hb0).b_ t.f3 h0' h1'
        generalize rd_T29 B t.f3 = u at *
        have HI := Lib.hid (ref_iface_any a W B u A4 c4 _ hWd)
        have HFD := Lib.hid (fun W' (hb : Below w.heap.size w W') => ref_find_any a W B u A4 c4 w W' hW hb)
        generalize ifaceP W u = iu at *
        generalize (findP W u).getD zDcl = x at *
        generalize (findP W u).isSome = bx at *
        clear hW hs ht h6 hA hc hb0 hWd l4 g4
        obtain ⟨AW, cW, AI, nI, cI, AN, nN, cN, AB, cB, AV, nV, cV⟩ := a
        simp only at hAB
        subst hAB
        simp only [scV, tyV, dclV] at *
        cases iu with
        | false =>
          rw [if_neg (by decide)]
          go_enter Try.func24, Try.ntmps24
          go_wp2_with (fail)
          go_region_law (first | (go_simp; go_at_call 26; refine HI.out.mono ?_; rintro e w1 ⟨rfl, hb⟩; have HB2 := Lib.hid (bel_trans HB.out (bel_trans (bel_drew (Below.refl _ _)) hb)); clear hb))
          all_goals
            go_wp2_with (fail)
            go_ret
            exact MthR.nil HB2.out
        | true =>
          rw [if_pos rfl]
          go_enter Try.func24, Try.ntmps24
          go_wp2_with (fail)
          go_region_law (first | (go_simp; go_at_call 26; refine HI.out.mono ?_; rintro e w1 ⟨rfl, hb⟩; have hbd := bel_trans (bel_drew (Below.refl ((w.alloc (.cells #[.slice AW W.length cW, .slice AI nI cI, .slice AN nN cN, .slice (some ad) B.length cB, .slice AV nV cV] 27)).alloc (.cells #[.int .i64 t.f0, .string t.f1, .string t.f2, .int .i64 t.f3, .slice A t.f4.length c] 29)).heap.size ((w.alloc (.cells #[.slice AW W.length cW, .slice AI nI cI, .slice AN nN cN, .slice (some ad) B.length cB, .slice AV nV cV] 27)).alloc (.cells #[.int .i64 t.f0, .string t.f1, .string t.f2, .int .i64 t.f3, .slice A t.f4.length c] 29)))) hb; have HBD := Lib.hid hbd; have HB2 := Lib.hid (bel_trans HB.out hbd); clear hb hbd))
          all_goals
            have hbd := HBD.out
            have y0 := cell_later hbd x0
            have y1 := cell_later hbd x1
            have y2 := cell_later hbd x2
            have y3 := cell_later hbd x3
            have y4 := cell_later hbd x4
            have hs := blk_later hbd HS.out
            have ht := blk_later hbd HT.out
            have s0' := (blk_cell hs 0).trans rfl
            have s1' := (blk_cell hs 1).trans rfl
            have s2' := (blk_cell hs 2).trans rfl
            have s3' := (blk_cell hs 3).trans rfl
            have s4' := (blk_cell hs 4).trans rfl
            have t0' := (blk_cell ht 0).trans rfl
            have t1' := (blk_cell ht 1).trans rfl
            have t2' := (blk_cell ht 2).trans rfl
            have t3' := (blk_cell ht 3).trans rfl
            have t4' := (blk_cell ht 4).trans rfl
            have f0 := blk_free ht 0
            have f1 := blk_free ht 1
            have f2 := blk_free ht 2
            have f3 := blk_free ht 3
            have f4 := blk_free ht 4
            clear hbd hs ht
            go_wp2_with (fail)
            have HB3 := Lib.hid (Below.setCell (Below.setCell (Below.setCell (Below.setCell (Below.setCell (HB2.out) (p := ⟨w.heap.size + 1, 0, none⟩) (Nat.le_succ _) (.int .i64 u.f0)) (p := ⟨w.heap.size + 1, 1, none⟩) (Nat.le_succ _) (.string u.f1)) (p := ⟨w.heap.size + 1, 2, none⟩) (Nat.le_succ _) (.string u.f2)) (p := ⟨w.heap.size + 1, 3, none⟩) (Nat.le_succ _) (.int .i64 u.f3)) (p := ⟨w.heap.size + 1, 4, none⟩) (Nat.le_succ _) (.slice A4 u.f4.length c4))
            refine (HFD.out _ HB3.out).mono ?_
            rintro e w2 ⟨A1, c1, B1, d1, rfl, _, _, hd1, k4, hb⟩
            have HD1 := Lib.hid hd1
            have HK4 := Lib.hid k4
            have HB4 := Lib.hid (bel_alloc (bel_trans HB3.out hb) (.cells #[.string x.f0, .bool x.f1, .slice A1 x.f2.length c1, .slice B1 x.f3.length d1] 35))
            clear hb hd1 k4
            go_wp2_with (fail)
            go_ret
            exact ⟨B1, d1, rfl, HD1.out, HK4.out, HB4.out⟩
  · have e6 : (t.f0 == 6) = false := beq_eq_false_iff_ne.2 h6
    rw [if_neg h6]
    have HFD := Lib.hid (ref_find_any a W B t A c w _ hW (id hb0))
    generalize (findP W t).getD zDcl = x at *
    generalize (findP W t).isSome = bx at *
    clear hW hs ht h6 hA hc hb0
    simp only [scV, tyV, dclV] at *
    go_enter Try.func24, Try.ntmps24
    go_wp2_with (fail)
    refine HFD.out.mono ?_
    rintro e w2 ⟨A1, c1, B1, d1, rfl, _, _, hd1, k4, hb⟩
    have HD1 := Lib.hid hd1
    have HK4 := Lib.hid k4
    have HB4 := Lib.hid (bel_alloc (bel_trans HB.out hb) (.cells #[.string x.f0, .bool x.f1, .slice A1 x.f2.length c1, .slice B1 x.f3.length d1] 35))
    clear hb hd1 k4
    go_wp2_with (fail)
    go_ret
    exact ⟨B1, d1, rfl, HD1.out, HK4.out, HB4.out⟩
end Go.Proofs.Ytbhagjhhgmmcgaa
namespace Go.Proofs.Ytbhagjhhgmmcgaa
open Go.RowKit PRef Go.Proofs.YtbhagjhhgmmcgaaW.PrintWords
set_option linter.unusedVariables false

def FldOut (o : Option Fld) (w0 w : World) (e : Ending) (w' : World) : Prop := ∃ A' c', e = .returned (.tuple #[.agg #[.int .i64 ((o.map (·.f1)).getD zTy).f0, .string ((o.map (·.f1)).getD zTy).f1, .string ((o.map (·.f1)).getD zTy).f2, .int .i64 ((o.map (·.f1)).getD zTy).f3, .slice A' ((o.map (·.f1)).getD zTy).f4.length c'], .bool o.isSome]) ∧ ((o.map (·.f1)).getD zTy).f4.length ≤ c' ∧ Kd.C kTy w0 A' ((o.map (·.f1)).getD zTy).f4.length ((o.map (·.f1)).getD zTy).f4 ∧ Below w.heap.size w w'
theorem FldOut.none {w0 w W : World} (h : Below w.heap.size w W) : FldOut none w0 w (.returned (.tuple #[.agg #[.int .i64 0, .string ⟨#[]⟩, .string ⟨#[]⟩, .int .i64 0, .slice none 0 0], .bool false])) W := ⟨Option.none, 0, rfl, Nat.le_refl _, C_nilR _ _ _, h⟩
set_option maxRecDepth 100000 in
set_option maxHeartbeats 4000000 in
theorem ref_field_any (a : ScA) (W : List Ifc) (B : List Ty) (t : Ty) (A : Option Addr) (c : Nat) (nm : ByteArray) (w : World) (hW : ScC a W B w) :
    Calls Try.prog 19 #[scV a W B, tyV t A c, .string nm] w (FldOut (fieldP W t nm) w w) := by
  have HB := Lib.hid (bel_alloc (bel_alloc (bel_alloc (Below.refl w.heap.size w) (.cells #[.slice a.AW W.length a.cW, .slice a.AI a.nI a.cI, .slice a.AN a.nN a.cN, .slice a.AB B.length a.cB, .slice a.AV a.nV a.cV] 27)) (.cells #[.int .i64 t.f0, .string t.f1, .string t.f2, .int .i64 t.f3, .slice A t.f4.length c] 29)) (.cells #[.int .i64 0, .string ⟨#[]⟩, .string ⟨#[]⟩, .int .i64 0, .slice none 0 0] 29))
  have HS := Lib.hid (blk_alloc (blk_alloc (blk_new w (.cells #[.slice a.AW W.length a.cW, .slice a.AI a.nI a.cI, .slice a.AN a.nN a.cN, .slice a.AB B.length a.cB, .slice a.AV a.nV a.cV] 27)) (.cells #[.int .i64 t.f0, .string t.f1, .string t.f2, .int .i64 t.f3, .slice A t.f4.length c] 29)) (.cells #[.int .i64 0, .string ⟨#[]⟩, .string ⟨#[]⟩, .int .i64 0, .slice none 0 0] 29))
  have HT := Lib.hid (blk_alloc ((show ((w.alloc (.cells #[.slice a.AW W.length a.cW, .slice a.AI a.nI a.cI, .slice a.AN a.nN a.cN, .slice a.AB B.length a.cB, .slice a.AV a.nV a.cV] 27)).alloc (.cells #[.int .i64 t.f0, .string t.f1, .string t.f2, .int .i64 t.f3, .slice A t.f4.length c] 29)).heap[w.heap.size + 1]? = some (.cells #[.int .i64 t.f0, .string t.f1, .string t.f2, .int .i64 t.f3, .slice A t.f4.length c] 29 (0, 0)) from blk_newR _ _ _ (by simp))) (.cells #[.int .i64 0, .string ⟨#[]⟩, .string ⟨#[]⟩, .int .i64 0, .slice none 0 0] 29))
  have HR := Lib.hid ((show (((w.alloc (.cells #[.slice a.AW W.length a.cW, .slice a.AI a.nI a.cI, .slice a.AN a.nN a.cN, .slice a.AB B.length a.cB, .slice a.AV a.nV a.cV] 27)).alloc (.cells #[.int .i64 t.f0, .string t.f1, .string t.f2, .int .i64 t.f3, .slice A t.f4.length c] 29)).alloc (.cells #[.int .i64 0, .string ⟨#[]⟩, .string ⟨#[]⟩, .int .i64 0, .slice none 0 0] 29)).heap[w.heap.size + 1 + 1]? = some (.cells #[.int .i64 0, .string ⟨#[]⟩, .string ⟨#[]⟩, .int .i64 0, .slice none 0 0] 29 (0, 0)) from blk_newR _ _ _ (by simp)))
  have HC := Lib.hid (ref_find_any a W B t A c w _ hW HB.out)
  have hxb : (findP W t).isSome = false → ((findP W t).getD zDcl).f2 = [] := by
    intro h
    cases e : findP W t with
    | none => rfl
    | some y => rw [e] at h; cases h
  unfold fieldP
  generalize (findP W t).getD zDcl = x at *
  generalize (findP W t).isSome = b at *
  have HXB := Lib.hid hxb
  generalize ho : x.f2.find? (fun f => decide (f.f0 = nm) && x.f1) = o
  have HO := Lib.hid ho
  clear hW hxb HS HT ho
  simp only [scV, tyV, dclV] at *
  go_enter Try.func19, Try.ntmps19
  go_wp2_with (fail)
  refine HC.out.mono ?_
  rintro e w1 ⟨A1, c1, B1, d1, rfl, k1, k2, k3, k4, hb⟩
  replace HB := Lib.hid (bel_alloc (bel_trans HB.out hb) (.cells #[.string x.f0, .bool x.f1, .slice A1 x.f2.length c1, .slice B1 x.f3.length d1] 35))
  replace HR := Lib.hid (blk_alloc (blk_later hb HR.out) (.cells #[.string x.f0, .bool x.f1, .slice A1 x.f2.length c1, .slice B1 x.f3.length d1] 35))
  have HD := Lib.hid (blk_new w1 (.cells #[.string x.f0, .bool x.f1, .slice A1 x.f2.length c1, .slice B1 x.f3.length d1] 35))
  have HF := Lib.hid k2
  have hlm : x.f2.length ≤ 9223372036854775807 := k2.2.1
  clear HC hb k2 k3 k4
  go_wp2_with (fail)
  generalize w1.alloc (.cells #[.string x.f0, .bool x.f1, .slice A1 x.f2.length c1, .slice B1 x.f3.length d1] 35) = W2 at *
  generalize w1.heap.size = gd at *
  have d1' := (blk_cell HD.out 1).trans rfl
  have d2' := (blk_cell HD.out 2).trans rfl
  have r0 := (blk_cell HR.out 0).trans rfl
  have r1 := (blk_cell HR.out 1).trans rfl
  have r2 := (blk_cell HR.out 2).trans rfl
  have r3 := (blk_cell HR.out 3).trans rfl
  have r4 := (blk_cell HR.out 4).trans rfl
  have f0 := blk_free HR.out 0
  have f1 := blk_free HR.out 1
  have f2 := blk_free HR.out 2
  have f3 := blk_free HR.out 3
  have f4 := blk_free HR.out 4
  cases b with
  | false =>
    have hx2 : x.f2 = [] := HXB.out rfl
    have HN := Lib.hid (show x.f2.find? (fun f => decide (f.f0 = nm) && x.f1) = none by rw [hx2]; rfl)
    have hl0 : x.f2.length = 0 := by rw [hx2]; rfl
    clear hx2 HXB
    go_loop [10] (fun v6 => v6 = .int .i64 0) (fun _ => 0)
    case atStart => rfl
    case round =>
      subst hrel
      go_wp2_with (fail)
      have hE := blk_set (blk_set (blk_set (blk_set (blk_set (HR.out) 0 (.int .i64 0)) 1 (.string ⟨#[]⟩)) 2 (.string ⟨#[]⟩)) 3 (.int .i64 0)) 4 (.slice none 0 0)
      have hfin := Below.setCell (Below.setCell (Below.setCell (Below.setCell (Below.setCell (HB.out) (p := ⟨w.heap.size + 1 + 1, 0, none⟩) (Nat.le_add_right_of_le (Nat.le_add_right _ _)) (.int .i64 0)) (p := ⟨w.heap.size + 1 + 1, 1, none⟩) (Nat.le_add_right_of_le (Nat.le_add_right _ _)) (.string ⟨#[]⟩)) (p := ⟨w.heap.size + 1 + 1, 2, none⟩) (Nat.le_add_right_of_le (Nat.le_add_right _ _)) (.string ⟨#[]⟩)) (p := ⟨w.heap.size + 1 + 1, 3, none⟩) (Nat.le_add_right_of_le (Nat.le_add_right _ _)) (.int .i64 0)) (p := ⟨w.heap.size + 1 + 1, 4, none⟩) (Nat.le_add_right_of_le (Nat.le_add_right _ _)) (.slice none 0 0)
      refine cell_tmp_end rfl (hE.trans rfl) Try.underlying29 (sizeTy.trans rfl) rfl rfl rfl ?_
      rw [show o = none from HO.out.symm.trans HN.out]
      exact FldOut.none hfin
  | true =>
    clear HXB
    by_cases hst : x.f1 = true
    · replace HO := Lib.hid (show x.f2.find? (fun f => decide (f.f0 = nm)) = o by rw [← HO.out]; congr 1; funext f; rw [hst, Bool.and_true])
      rw [hst] at d1'
      clear hst
      go_loop [10] (fun v6 => ∃ k : Nat, v6 = .int .i64 k ∧ Hid (k ≤ x.f2.length ∧ x.f2.find? (fun d => decide (d.f0 = nm)) = (x.f2.drop k).find? (fun d => decide (d.f0 = nm)))) (fun v6 => x.f2.length - (intOf v6).toNat)
      case atStart => exact ⟨0, rfl, Lib.hid ⟨Nat.zero_le _, rfl⟩⟩
      case round =>
        obtain ⟨k, rfl, HK⟩ := hrel
        by_cases hlt : k < x.f2.length
        · obtain ⟨y, hy⟩ : ∃ y, x.f2[k]? = some y := ⟨_, List.getElem?_eq_getElem hlt⟩
          obtain ⟨ad, A5, c5, hA1, x0, x1, x2, x3, x4, x5, g0, g1⟩ := at_T83 HF.out (k : Int) (by omega) (by omega)
          subst hA1
          rw [show rd_T83 x.f2 (k : Int) = y from by unfold rd_T83; rw [Int.toNat_natCast, List.getD_eq_getElem?_getD, hy]; rfl] at x0 x1 x2 x3 x4 x5 g0 g1
          rw [Int.toNat_natCast] at x0 x1 x2 x3 x4 x5
          replace x0 := cell_later HB.out x0
          replace x1 := cell_later HB.out x1
          replace x2 := cell_later HB.out x2
          replace x3 := cell_later HB.out x3
          replace x4 := cell_later HB.out x4
          replace x5 := cell_later HB.out x5
          have HG := Lib.hid (And.intro g0 g1)
          have HD2 := Lib.hid (HK.out.2.trans (find_drop _ x.f2 k y hy))
          have i0 : 0 ≤ (k : Int) := by omega
          have i1 : (k : Int) < x.f2.length := by omega
          have HLT := Lib.hid hlt
          clear hy g0 g1
          by_cases hq : y.f0 = nm
          · subst hq
            rw [if_pos (by simp)] at HD2
            go_wp2_with (fail)
            have hE := blk_set (blk_set (blk_set (blk_set (blk_set (HR.out) 0 (.int .i64 y.f1.f0)) 1 (.string y.f1.f1)) 2 (.string y.f1.f2)) 3 (.int .i64 y.f1.f3)) 4 (.slice A5 y.f1.f4.length c5)
            have hfin := Below.setCell (Below.setCell (Below.setCell (Below.setCell (Below.setCell (HB.out) (p := ⟨w.heap.size + 1 + 1, 0, none⟩) (Nat.le_add_right_of_le (Nat.le_add_right _ _)) (.int .i64 y.f1.f0)) (p := ⟨w.heap.size + 1 + 1, 1, none⟩) (Nat.le_add_right_of_le (Nat.le_add_right _ _)) (.string y.f1.f1)) (p := ⟨w.heap.size + 1 + 1, 2, none⟩) (Nat.le_add_right_of_le (Nat.le_add_right _ _)) (.string y.f1.f2)) (p := ⟨w.heap.size + 1 + 1, 3, none⟩) (Nat.le_add_right_of_le (Nat.le_add_right _ _)) (.int .i64 y.f1.f3)) (p := ⟨w.heap.size + 1 + 1, 4, none⟩) (Nat.le_add_right_of_le (Nat.le_add_right _ _)) (.slice A5 y.f1.f4.length c5)
            refine cell_tmp_end rfl (hE.trans rfl) Try.underlying29 (sizeTy.trans rfl) rfl rfl rfl ?_
            rw [show o = some y from HO.out.symm.trans HD2.out]
            exact ⟨A5, c5, rfl, HG.out.1, HG.out.2, hfin⟩
          · rw [if_neg (by simp [hq])] at HD2
            have s0 := ba_ne hq
            have s1 := ba_neP hq
            clear hq
            go_wp2_with (fail)
            go_round
            case rel => exact ⟨k + 1, by go_num, Lib.hid ⟨HLT.out, HD2.out⟩⟩
            case measure => have := HLT.out; simp [intOf]; omega
        · obtain rfl : k = x.f2.length := by have := HK.out.1; omega
          have HE := Lib.hid (show x.f2.find? (fun d => decide (d.f0 = nm)) = none from by have := HK.out.2; rw [List.drop_length] at this; exact this)
          have HN := HE
          go_wp2_with (fail)
          have hE := blk_set (blk_set (blk_set (blk_set (blk_set (HR.out) 0 (.int .i64 0)) 1 (.string ⟨#[]⟩)) 2 (.string ⟨#[]⟩)) 3 (.int .i64 0)) 4 (.slice none 0 0)
          have hfin := Below.setCell (Below.setCell (Below.setCell (Below.setCell (Below.setCell (HB.out) (p := ⟨w.heap.size + 1 + 1, 0, none⟩) (Nat.le_add_right_of_le (Nat.le_add_right _ _)) (.int .i64 0)) (p := ⟨w.heap.size + 1 + 1, 1, none⟩) (Nat.le_add_right_of_le (Nat.le_add_right _ _)) (.string ⟨#[]⟩)) (p := ⟨w.heap.size + 1 + 1, 2, none⟩) (Nat.le_add_right_of_le (Nat.le_add_right _ _)) (.string ⟨#[]⟩)) (p := ⟨w.heap.size + 1 + 1, 3, none⟩) (Nat.le_add_right_of_le (Nat.le_add_right _ _)) (.int .i64 0)) (p := ⟨w.heap.size + 1 + 1, 4, none⟩) (Nat.le_add_right_of_le (Nat.le_add_right _ _)) (.slice none 0 0)
          refine cell_tmp_end rfl (hE.trans rfl) Try.underlying29 (sizeTy.trans rfl) rfl rfl rfl ?_
          rw [show o = none from HO.out.symm.trans HN.out]
          exact FldOut.none hfin
    · have hsf : x.f1 = false := by simpa using hst
      have HN := Lib.hid (show x.f2.find? (fun f => decide (f.f0 = nm) && x.f1) = none by rw [List.find?_eq_none]; intro p _; simp [hsf])
      rw [hsf] at d1'
      clear hst hsf
      by_cases hl0 : x.f2.length = 0
      · go_loop [10] (fun v6 => v6 = .int .i64 0) (fun _ => 0)
        case atStart => rfl
        case round =>
          subst hrel
          go_wp2_with (fail)
          have hE := blk_set (blk_set (blk_set (blk_set (blk_set (HR.out) 0 (.int .i64 0)) 1 (.string ⟨#[]⟩)) 2 (.string ⟨#[]⟩)) 3 (.int .i64 0)) 4 (.slice none 0 0)
          have hfin := Below.setCell (Below.setCell (Below.setCell (Below.setCell (Below.setCell (HB.out) (p := ⟨w.heap.size + 1 + 1, 0, none⟩) (Nat.le_add_right_of_le (Nat.le_add_right _ _)) (.int .i64 0)) (p := ⟨w.heap.size + 1 + 1, 1, none⟩) (Nat.le_add_right_of_le (Nat.le_add_right _ _)) (.string ⟨#[]⟩)) (p := ⟨w.heap.size + 1 + 1, 2, none⟩) (Nat.le_add_right_of_le (Nat.le_add_right _ _)) (.string ⟨#[]⟩)) (p := ⟨w.heap.size + 1 + 1, 3, none⟩) (Nat.le_add_right_of_le (Nat.le_add_right _ _)) (.int .i64 0)) (p := ⟨w.heap.size + 1 + 1, 4, none⟩) (Nat.le_add_right_of_le (Nat.le_add_right _ _)) (.slice none 0 0)
          refine cell_tmp_end rfl (hE.trans rfl) Try.underlying29 (sizeTy.trans rfl) rfl rfl rfl ?_
          rw [show o = none from HO.out.symm.trans HN.out]
          exact FldOut.none hfin
      · have hlp : (0 : Int) < x.f2.length := by omega
        clear hl0
        go_loop [10] (fun v6 => v6 = .int .i64 0) (fun _ => 0)
        case atStart => rfl
        case round =>
          subst hrel
          go_wp2_with (fail)
          have hE := blk_set (blk_set (blk_set (blk_set (blk_set (HR.out) 0 (.int .i64 0)) 1 (.string ⟨#[]⟩)) 2 (.string ⟨#[]⟩)) 3 (.int .i64 0)) 4 (.slice none 0 0)
          have hfin := Below.setCell (Below.setCell (Below.setCell (Below.setCell (Below.setCell (HB.out) (p := ⟨w.heap.size + 1 + 1, 0, none⟩) (Nat.le_add_right_of_le (Nat.le_add_right _ _)) (.int .i64 0)) (p := ⟨w.heap.size + 1 + 1, 1, none⟩) (Nat.le_add_right_of_le (Nat.le_add_right _ _)) (.string ⟨#[]⟩)) (p := ⟨w.heap.size + 1 + 1, 2, none⟩) (Nat.le_add_right_of_le (Nat.le_add_right _ _)) (.string ⟨#[]⟩)) (p := ⟨w.heap.size + 1 + 1, 3, none⟩) (Nat.le_add_right_of_le (Nat.le_add_right _ _)) (.int .i64 0)) (p := ⟨w.heap.size + 1 + 1, 4, none⟩) (Nat.le_add_right_of_le (Nat.le_add_right _ _)) (.slice none 0 0)
          refine cell_tmp_end rfl (hE.trans rfl) Try.underlying29 (sizeTy.trans rfl) rfl rfl rfl ?_
          rw [show o = none from HO.out.symm.trans HN.out]
          exact FldOut.none hfin
end Go.Proofs.Ytbhagjhhgmmcgaa
namespace Go.Proofs.Ytbhagjhhgmmcgaa
open Go.RowKit PRef Go.Proofs.YtbhagjhhgmmcgaaW.PrintWords
set_option linter.unusedVariables false
set_option linter.unusedSimpArgs false

def MthOk' (m : Mth) : Prop := m.f1.length * 72 ≤ 140737488355328 ∧ (∀ p ∈ m.f1, TyOk p) ∧ TyOk m.f2
theorem findP_ok {W : List Ifc} (ok : WOk W) (t : Ty) : ∀ d, findP W t = some d → DclOk d := by
  intro d h
  unfold findP at h
  obtain ⟨p, hp, hd⟩ := Option.bind_eq_some_iff.1 h
  exact ok p (List.mem_of_find?_eq_some hp) d (List.mem_of_find?_eq_some hd)
theorem findP_ok' {W : List Ifc} (ok : WOk W) (t : Ty) : DclOk ((findP W t).getD zDcl) := by
  cases h : findP W t with
  | none => exact zDcl_ok
  | some d => exact findP_ok ok t d h
theorem methodsP_ok {W : List Ifc} (ok : WOk W) (B : List Ty) (t : Ty) : ∀ m ∈ methodsP W B t, MthOk' m := by
  intro m hm
  unfold methodsP at hm
  repeat' split at hm
  all_goals first
    | (cases hm; done)
    | exact (findP_ok' ok _).mp m hm

set_option maxRecDepth 100000 in
set_option maxHeartbeats 8000000 in
theorem ref_meets_any (a : ScA) (W : List Ifc) (B : List Ty) (t i : Ty) (A C : Option Addr) (c d : Nat) (w : World) (hW : ScC a W B w) (ok : WOk W) (hA : Kd.C kTy w A t.f4.length t.f4) (hc : t.f4.length ≤ c) (hC : Kd.C kTy w C i.f4.length i.f4) (hd : i.f4.length ≤ d) :
    Calls Try.prog 30 #[scV a W B, tyV t A c, tyV i C d] w fun e w' => e = .returned (.bool (meetsP W B t i)) ∧ Below w.heap.size w w' := by
  have HB := Lib.hid (bel_alloc (bel_alloc (bel_alloc (Below.refl w.heap.size w) (.cells #[.slice a.AW W.length a.cW, .slice a.AI a.nI a.cI, .slice a.AN a.nN a.cN, .slice a.AB B.length a.cB, .slice a.AV a.nV a.cV] 27)) (.cells #[.int .i64 t.f0, .string t.f1, .string t.f2, .int .i64 t.f3, .slice A t.f4.length c] 29)) (.cells #[.int .i64 i.f0, .string i.f1, .string i.f2, .int .i64 i.f3, .slice C i.f4.length d] 29))
  have HS := Lib.hid (blk_alloc (blk_alloc (blk_new w (.cells #[.slice a.AW W.length a.cW, .slice a.AI a.nI a.cI, .slice a.AN a.nN a.cN, .slice a.AB B.length a.cB, .slice a.AV a.nV a.cV] 27)) (.cells #[.int .i64 t.f0, .string t.f1, .string t.f2, .int .i64 t.f3, .slice A t.f4.length c] 29)) (.cells #[.int .i64 i.f0, .string i.f1, .string i.f2, .int .i64 i.f3, .slice C i.f4.length d] 29))
  have HT := Lib.hid (blk_alloc ((show ((w.alloc (.cells #[.slice a.AW W.length a.cW, .slice a.AI a.nI a.cI, .slice a.AN a.nN a.cN, .slice a.AB B.length a.cB, .slice a.AV a.nV a.cV] 27)).alloc (.cells #[.int .i64 t.f0, .string t.f1, .string t.f2, .int .i64 t.f3, .slice A t.f4.length c] 29)).heap[w.heap.size + 1]? = some (.cells #[.int .i64 t.f0, .string t.f1, .string t.f2, .int .i64 t.f3, .slice A t.f4.length c] 29 (0, 0)) from blk_newR _ _ _ (by simp))) (.cells #[.int .i64 i.f0, .string i.f1, .string i.f2, .int .i64 i.f3, .slice C i.f4.length d] 29))
  have HX := Lib.hid ((show (((w.alloc (.cells #[.slice a.AW W.length a.cW, .slice a.AI a.nI a.cI, .slice a.AN a.nN a.cN, .slice a.AB B.length a.cB, .slice a.AV a.nV a.cV] 27)).alloc (.cells #[.int .i64 t.f0, .string t.f1, .string t.f2, .int .i64 t.f3, .slice A t.f4.length c] 29)).alloc (.cells #[.int .i64 i.f0, .string i.f1, .string i.f2, .int .i64 i.f3, .slice C i.f4.length d] 29)).heap[w.heap.size + 1 + 1]? = some (.cells #[.int .i64 i.f0, .string i.f1, .string i.f2, .int .i64 i.f3, .slice C i.f4.length d] 29 (0, 0)) from blk_newR _ _ _ (by simp)))
  have HI := Lib.hid (ref_iface_any a W B i C d _ (hW.later HB.out))
  have HM := Lib.hid (fun W' (hb : Below w.heap.size w W') => ref_methods_any a W B t A c W' (hW.later hb) (Kd.C_below hA hb) hc)
  have HN := Lib.hid (fun W' (hb : Below w.heap.size w W') => ref_methods_any a W B i C d W' (hW.later hb) (Kd.C_below hC hb) hd)
  have HOK := Lib.hid (methodsP_ok ok B t)
  have HOM := Lib.hid (methodsP_ok ok B i)
  unfold meetsP
  generalize ifaceP W i = ib at *
  generalize methodsP W B t = L at *
  generalize methodsP W B i = M at *
  clear hW ok hA hC hc hd
  simp only [scV, tyV] at *
  cases ib with
  | false =>
    rw [Bool.false_and]
    go_enter Try.func30, Try.ntmps30
    go_wp2_with (fail)
    refine (HI.out).mono ?_
    rintro e w1 ⟨rfl, hb⟩
    replace HB := Lib.hid (bel_trans HB.out hb)
    clear hb
    go_wp2_with (fail)
    go_ret
    exact ⟨rfl, HB.out⟩
  | true =>
    rw [Bool.true_and]
    go_enter Try.func30, Try.ntmps30
    go_wp2_with (fail)
    refine (HI.out).mono ?_
    rintro e w1 ⟨rfl, hb⟩
    replace HS := Lib.hid (blk_later hb HS.out)
    replace HT := Lib.hid (blk_later hb HT.out)
    replace HX := Lib.hid (blk_later hb HX.out)
    replace HB := Lib.hid (bel_trans HB.out hb)
    clear hb
    have s0 := (blk_cell HS.out 0).trans rfl
    have s1 := (blk_cell HS.out 1).trans rfl
    have s2 := (blk_cell HS.out 2).trans rfl
    have s3 := (blk_cell HS.out 3).trans rfl
    have s4 := (blk_cell HS.out 4).trans rfl
    have t0 := (blk_cell HX.out 0).trans rfl
    have t1 := (blk_cell HX.out 1).trans rfl
    have t2 := (blk_cell HX.out 2).trans rfl
    have t3 := (blk_cell HX.out 3).trans rfl
    have t4 := (blk_cell HX.out 4).trans rfl
    go_wp2_with (fail)
    refine (HN.out _ HB.out).mono ?_
    rintro e w1 ⟨A2, c2, rfl, hl2, hC2, hb⟩
    have HC2 := Lib.hid (Kd.C_below hC2 hb)
    have HL2 := Lib.hid hl2
    have hM9 : M.length ≤ 9223372036854775807 := hC2.2.1
    replace HS := Lib.hid (blk_later hb HS.out)
    replace HT := Lib.hid (blk_later hb HT.out)
    replace HB := Lib.hid (bel_trans HB.out hb)
    clear hb
    clear s0 s1 s2 s3 s4 t0 t1 t2 t3 t4 hl2 hC2
    have s0 := (blk_cell HS.out 0).trans rfl
    have s1 := (blk_cell HS.out 1).trans rfl
    have s2 := (blk_cell HS.out 2).trans rfl
    have s3 := (blk_cell HS.out 3).trans rfl
    have s4 := (blk_cell HS.out 4).trans rfl
    have t0 := (blk_cell HT.out 0).trans rfl
    have t1 := (blk_cell HT.out 1).trans rfl
    have t2 := (blk_cell HT.out 2).trans rfl
    have t3 := (blk_cell HT.out 3).trans rfl
    have t4 := (blk_cell HT.out 4).trans rfl
    go_wp2_with (fail)
    refine (HM.out _ HB.out).mono ?_
    rintro e w1 ⟨A1, c1, rfl, hl1, hC1, hb⟩
    have HC1 := Lib.hid (Kd.C_below hC1 hb)
    have HL1 := Lib.hid hl1
    replace HC2 := Lib.hid (Kd.C_below HC2.out hb)
    replace HB := Lib.hid (bel_trans HB.out hb)
    clear hb
    clear s0 s1 s2 s3 s4 t0 t1 t2 t3 t4 hl1 hC1 HS HT HX
    have HW3 : ∃ w3 : World, w3 = w1 := ⟨_, rfl⟩
    obtain ⟨w3, hw3⟩ := HW3
    subst hw3
    have HWW := Lib.hid (Below.refl w3.heap.size w3)
    go_wp2_with (fail)
    go_loopw [10] (fun v10 wr => ∃ k : Nat, v10 = .int .i64 k ∧ Hid (k ≤ M.length ∧ M.all (wantP L) = (M.drop k).all (wantP L)) ∧ Hid (Below w3.heap.size w3 wr)) (fun v10 _ => M.length - (intOf v10).toNat)
    case atStart => exact ⟨0, rfl, Lib.hid ⟨Nat.zero_le _, rfl⟩, HWW⟩
    case round =>
      clear HWW
      obtain ⟨k, rfl, HK, HWW⟩ := hrel
      obtain ⟨wo, hwo⟩ : ∃ wo : World, wo = wr := ⟨_, rfl⟩
      subst hwo
      replace HB := Lib.hid (bel_trans HB.out HWW.out)
      by_cases hlt : k < M.length
      · obtain ⟨x, hx⟩ : ∃ x, M[k]? = some x := ⟨_, List.getElem?_eq_getElem hlt⟩
        have HXO := Lib.hid (HOM.out x (List.mem_of_getElem? hx))
        obtain ⟨ad, B1, d1, B6, d6, hA1, x0, x1, x2, x3, x4, x5, x6, l1, g1, l6, g6⟩ := at_T50 HC2.out (k : Int) (by omega) (by omega)
        subst hA1
        rw [show rd_T50 M (k : Int) = x from by unfold rd_T50; rw [Int.toNat_natCast, List.getD_eq_getElem?_getD, hx]; rfl] at x0 x1 x2 x3 x4 x5 x6 l1 g1 l6 g6
        rw [Int.toNat_natCast] at x0 x1 x2 x3 x4 x5 x6
        have HXX := Lib.hid (And.intro x0 (And.intro x1 (And.intro x2 (And.intro x3 (And.intro x4 (And.intro x5 x6))))))
        have HGX := Lib.hid (And.intro l1 (And.intro g1 (And.intro l6 g6)))
        have x0' := cell_later HWW.out x0
        have HD := Lib.hid (HK.out.2.trans (all_drop (wantP L) M k x hx))
        have i0 : 0 ≤ (k : Int) := by omega
        have i1 : (k : Int) < M.length := by omega
        have HLT := Lib.hid hlt
        have HHAS := Lib.hid (has_any L A1 c1 x.f0 w3 wo HC1.out HWW.out HL1.out)
        have HYO := Lib.hid (fun y (h : L.find? (fun m => decide (m.f0 = x.f0)) = some y) => HOK.out y (List.mem_of_find?_eq_some h))
        clear hx g1 g6 l1 l6 x0 x1 x2 x3 x4 x5 x6
        have HWP := Lib.hid (show wantP L x = match L.find? (fun m => decide (m.f0 = x.f0)) with | none => false | some m => alikeL m.f1 x.f1 && alikeT m.f2 x.f2 from rfl)
        generalize L.find? (fun m => decide (m.f0 = x.f0)) = of at *
        cases of with
        | none =>
          have HE := Lib.hid (show M.all (wantP L) = false from by have := HD.out; rw [show wantP L x = false from HWP.out, Bool.false_and] at this; exact this)
          go_wp2_with (fail)
          refine HHAS.out.mono ?_
          rintro e w4 ⟨A5, c5, A6, c6, rfl, _, _, _, _, hb4⟩
          replace HB := Lib.hid (bel_trans HB.out hb4)
          clear hb4
          go_wp2_with (fail)
          go_quiet (fail)
          go_wp2_with (fail)
          go_ret
          exact ⟨by rw [HE.out]; rfl, bel_drewN (bel_alloc HB.out _) _⟩
        | some y =>
          have HYO1 := Lib.hid (HYO.out y rfl)
          have HWP1 := Lib.hid (show wantP L x = (alikeL y.f1 x.f1 && alikeT y.f2 x.f2) from HWP.out)
          go_wp2_with (fail)
          refine HHAS.out.mono ?_
          rintro e w4 ⟨A5, c5, A6, c6, rfl, hc5, hk5, hc6, hk6, hb4⟩
          have HB5 := Lib.hid (bel_alloc (bel_trans HB.out hb4) (.cells #[.string y.f0, .slice A5 y.f1.length c5, .int .i64 y.f2.f0, .string y.f2.f1, .string y.f2.f2, .int .i64 y.f2.f3, .slice A6 y.f2.f4.length c6] 50))
          have HW5 := Lib.hid (bel_alloc (bel_trans HWW.out hb4) (.cells #[.string y.f0, .slice A5 y.f1.length c5, .int .i64 y.f2.f0, .string y.f2.f1, .string y.f2.f2, .int .i64 y.f2.f3, .slice A6 y.f2.f4.length c6] 50))
          have HMB := Lib.hid (blk_new w4 (.cells #[.string y.f0, .slice A5 y.f1.length c5, .int .i64 y.f2.f0, .string y.f2.f1, .string y.f2.f2, .int .i64 y.f2.f3, .slice A6 y.f2.f4.length c6] 50))
          have HY := Lib.hid (And.intro hc5 (And.intro hk5 (And.intro hc6 hk6)))
          clear hb4 hc5 hk5 hc6 hk6 HHAS HYO x0'
          simp only [Option.getD_some, Option.isSome_some] at HB5 HW5 HMB HY
          go_wp2_with (fail)
          generalize w4.alloc (.cells #[.string y.f0, .slice A5 y.f1.length c5, .int .i64 y.f2.f0, .string y.f2.f1, .string y.f2.f2, .int .i64 y.f2.f3, .slice A6 y.f2.f4.length c6] 50) = W5 at *
          generalize w4.heap.size = gm at *
          have b1 := (blk_cell HMB.out 1).trans rfl
          have x1' := cell_later HW5.out HXX.out.2.1
          by_cases hlen : y.f1.length = x.f1.length
          · have e1 : (y.f1.length != x.f1.length) = false := by simp [hlen]
            have e2 : ((y.f1.length : Int) != (x.f1.length : Int)) = false := by simp [hlen]
            have HLE := Lib.hid hlen
            have hym : x.f1.length ≤ 9223372036854775807 := HGX.out.2.1.2.1
            clear hlen
            go_quiet (fail)
            go_wp2_with (fail)
            have HA0 := Lib.hid (bel_drewN HB5.out nq)
            have HA1 := Lib.hid (bel_drewN HW5.out nq)
            have HA2 := Lib.hid (blk_later (bel_drewN (Below.refl W5.heap.size W5) nq) HMB.out)
            generalize W5.drewN nq = W6 at *
            clear HB5 HW5 HMB b1 x1' e1 e2
            go_loopw [13] (fun v13 wr => ∃ n : Nat, v13 = .int .i64 n ∧ Hid (n ≤ x.f1.length ∧ alikeL y.f1 x.f1 = allL alikeT (y.f1.drop n) (x.f1.drop n)) ∧ Hid (wr.heap[gm]? = some (.cells #[.string y.f0, .slice A5 y.f1.length c5, .int .i64 y.f2.f0, .string y.f2.f1, .string y.f2.f2, .int .i64 y.f2.f3, .slice A6 y.f2.f4.length c6] 50 (0, 0))) ∧ Hid (Below w.heap.size w wr) ∧ Hid (Below w3.heap.size w3 wr)) (fun v13 _ => x.f1.length - (intOf v13).toNat)
            case atStart => exact ⟨0, rfl, Lib.hid ⟨Nat.zero_le _, alikeL_all _ _⟩, HA2, HA0, HA1⟩
            case round =>
              clear HA0 HA1 HA2
              obtain ⟨n, rfl, HNK, HMB, HBI, HWI⟩ := hrel
              have b1 := (blk_cell HMB.out 1).trans rfl
              by_cases hn : n < x.f1.length
              · have hny : n < y.f1.length := by have := HLE.out; omega
                obtain ⟨u, hu⟩ : ∃ u, y.f1[n]? = some u := ⟨_, List.getElem?_eq_getElem hny⟩
                obtain ⟨v, hv⟩ : ∃ v, x.f1[n]? = some v := ⟨_, List.getElem?_eq_getElem hn⟩
                obtain ⟨ay, Y4, e4, hAy, y0, y1, y2, y3, y4, ly, gy⟩ := at_T29 HY.out.2.1 (n : Int) (by omega) (by omega)
                obtain ⟨ax, X4, g4, hAx, v0, v1, v2, v3, v4, lx, gx⟩ := at_T29 HGX.out.2.1 (n : Int) (by omega) (by omega)
                rw [show rd_T29 y.f1 (n : Int) = u from by unfold rd_T29; rw [Int.toNat_natCast, List.getD_eq_getElem?_getD, hu]; rfl] at y0 y1 y2 y3 y4 ly gy
                rw [show rd_T29 x.f1 (n : Int) = v from by unfold rd_T29; rw [Int.toNat_natCast, List.getD_eq_getElem?_getD, hv]; rfl] at v0 v1 v2 v3 v4 lx gx
                rw [Int.toNat_natCast] at y0 y1 y2 y3 y4 v0 v1 v2 v3 v4
                have x1' := cell_later HWI.out HXX.out.2.1
                subst hAy hAx
                replace y0 := cell_later HWI.out y0
                replace y1 := cell_later HWI.out y1
                replace y2 := cell_later HWI.out y2
                replace y3 := cell_later HWI.out y3
                replace y4 := cell_later HWI.out y4
                replace v0 := cell_later HWI.out v0
                replace v1 := cell_later HWI.out v1
                replace v2 := cell_later HWI.out v2
                replace v3 := cell_later HWI.out v3
                replace v4 := cell_later HWI.out v4
                have HAL := Lib.hid (fun (Wc : World) (hb : Below w3.heap.size w3 Wc) => ref_alike_any (tyAll u) v Y4 X4 e4 g4 Wc (Kd.C_below gy hb) ly (Kd.C_below gx hb) lx)
                have HND := Lib.hid (HNK.out.2.trans (allL_drop alikeT y.f1 x.f1 HLE.out n u v hu hv))
                have j0 : 0 ≤ (n : Int) := by omega
                have j1 : (n : Int) < x.f1.length := by omega
                have j2 : (n : Int) < y.f1.length := by omega
                have HLN := Lib.hid hn
                clear hu hv ly gy lx gx hny
                cases hq : alikeT u v with
                | true =>
                  rw [hq] at HAL HND
                  clear hq
                  go_wp2_with (fail)
                  go_still_tail 13, (by kernel_rfl)
                  change wpList _ _ _ _ _ wr.drew
                  go_wp2_with (fail)
                  refine (HAL.out _ (bel_drew HWI.out)).mono ?_
                  rintro e w8 ⟨rfl, hb8⟩
                  have HBI2 := Lib.hid (bel_trans (bel_drew HBI.out) hb8)
                  have HWI2 := Lib.hid (bel_trans (bel_drew HWI.out) hb8)
                  have HMB2 := Lib.hid (blk_later hb8 HMB.out)
                  clear hb8
                  go_wp2_with (fail)
                  go_roundw
                  case rel => exact ⟨n + 1, by go_num, Lib.hid ⟨HLN.out, HND.out⟩, HMB2, HBI2, HWI2⟩
                  case measure => have := HLN.out; simp [intOf]; omega
                | false =>
                  rw [hq] at HAL HND
                  clear hq
                  have HE := Lib.hid (show M.all (wantP L) = false from by have := HD.out; rw [HWP1.out, HND.out] at this; simpa using this)
                  go_wp2_with (fail)
                  go_still_tail 13, (by kernel_rfl)
                  change wpList _ _ _ _ _ wr.drew
                  go_wp2_with (fail)
                  refine (HAL.out _ (bel_drew HWI.out)).mono ?_
                  rintro e w8 ⟨rfl, hb8⟩
                  have HBI2 := Lib.hid (bel_trans (bel_drew HBI.out) hb8)
                  clear hb8
                  go_wp2_with (fail)
                  go_ret
                  exact ⟨by rw [HE.out]; rfl, HBI2.out⟩
              · obtain rfl : n = x.f1.length := by have := HNK.out.1; omega
                have HAT := Lib.hid (show alikeL y.f1 x.f1 = true from by have := HNK.out.2; rw [List.drop_length, List.drop_of_length_le (by have := HLE.out; omega)] at this; exact this)
                have b2 := (blk_cell HMB.out 2).trans rfl
                have b3 := (blk_cell HMB.out 3).trans rfl
                have b4 := (blk_cell HMB.out 4).trans rfl
                have b5 := (blk_cell HMB.out 5).trans rfl
                have b6 := (blk_cell HMB.out 6).trans rfl
                obtain ⟨q0, q1, q2, q3, q4, q5, q6⟩ := HXX.out
                have x2' := cell_later HWI.out q2
                have x3' := cell_later HWI.out q3
                have x4' := cell_later HWI.out q4
                have x5' := cell_later HWI.out q5
                have x6' := cell_later HWI.out q6
                have HAL := Lib.hid (fun (Wc : World) (hb : Below w3.heap.size w3 Wc) => ref_alike_any (tyAll y.f2) x.f2 A6 B6 c6 d6 Wc (Kd.C_below HY.out.2.2.2 hb) HY.out.2.2.1 (Kd.C_below HGX.out.2.2.2 hb) HGX.out.2.2.1)
                clear q0 q1 q2 q3 q4 q5 q6 hn
                have dl : decide ((x.f1.length : Int) < (y.f1.length : Int)) = false := decide_eq_false (by have := HLE.out; omega)
                have dl2 : decide (x.f1.length < y.f1.length) = false := decide_eq_false (by have := HLE.out; omega)
                cases hq : alikeT y.f2 x.f2 with
                | true =>
                  rw [hq] at HAL
                  have HE := Lib.hid (show M.all (wantP L) = (M.drop (k + 1)).all (wantP L) from by have := HD.out; rw [HWP1.out, HAT.out, hq] at this; simpa using this)
                  clear hq
                  go_wp2_with (fail)
                  go_still_tail 7, (by kernel_rfl)
                  change wpList _ _ _ _ _ wr.drew
                  go_wp2_with (fail)
                  refine (HAL.out _ (bel_drew HWI.out)).mono ?_
                  rintro e w8 ⟨rfl, hb8⟩
                  have HWI2 := Lib.hid (bel_trans (bel_drew HWI.out) hb8)
                  clear hb8
                  go_wp2_with (fail)
                  go_roundw
                  case rel => exact ⟨k + 1, by go_num, Lib.hid ⟨HLT.out, HE.out⟩, HWI2⟩
                  case measure => have := HLT.out; simp [intOf]; omega
                | false =>
                  rw [hq] at HAL
                  have HE := Lib.hid (show M.all (wantP L) = false from by have := HD.out; rw [HWP1.out, HAT.out, hq] at this; simpa using this)
                  clear hq
                  go_wp2_with (fail)
                  go_still_tail 7, (by kernel_rfl)
                  change wpList _ _ _ _ _ wr.drew
                  go_wp2_with (fail)
                  refine (HAL.out _ (bel_drew HWI.out)).mono ?_
                  rintro e w8 ⟨rfl, hb8⟩
                  have HBI2 := Lib.hid (bel_trans (bel_drew HBI.out) hb8)
                  clear hb8
                  go_wp2_with (fail)
                  go_ret
                  exact ⟨by rw [HE.out]; rfl, HBI2.out⟩
          · have e1 : (y.f1.length != x.f1.length) = true := by simp [hlen]
            have e2 : ((y.f1.length : Int) != (x.f1.length : Int)) = true := by simp; omega
            have HE := Lib.hid (show M.all (wantP L) = false from by have := HD.out; rw [HWP1.out, alikeL_all, allL_len _ _ _ hlen] at this; simpa using this)
            clear hlen
            go_quiet (fail)
            go_wp2_with (fail)
            go_ret
            exact ⟨by rw [HE.out]; rfl, bel_drewN HB5.out _⟩
      · obtain rfl : k = M.length := by have := HK.out.1; omega
        have HE := Lib.hid (show M.all (wantP L) = true from by have := HK.out.2; rw [List.drop_length] at this; exact this)
        go_wp2_with (fail)
        go_ret
        exact ⟨by rw [HE.out]; rfl, HB.out⟩
set_option maxRecDepth 100000 in
set_option maxHeartbeats 4000000 in
theorem ref_assign_any (a : ScA) (W : List Ifc) (B : List Ty) (t i : Ty) (A C : Option Addr) (c d : Nat) (w : World) (hW : ScC a W B w) (ok : WOk W) (hA : Kd.C kTy w A t.f4.length t.f4) (hc : t.f4.length ≤ c) (hC : Kd.C kTy w C i.f4.length i.f4) (hd : i.f4.length ≤ d) :
    Calls Try.prog 32 #[scV a W B, tyV t A c, tyV i C d] w fun e w' => e = .returned (.bool (assignP W B t i)) ∧ Below w.heap.size w w' := by
  have HB := Lib.hid (bel_alloc (bel_alloc (bel_alloc (Below.refl w.heap.size w) (.cells #[.slice a.AW W.length a.cW, .slice a.AI a.nI a.cI, .slice a.AN a.nN a.cN, .slice a.AB B.length a.cB, .slice a.AV a.nV a.cV] 27)) (.cells #[.int .i64 t.f0, .string t.f1, .string t.f2, .int .i64 t.f3, .slice A t.f4.length c] 29)) (.cells #[.int .i64 i.f0, .string i.f1, .string i.f2, .int .i64 i.f3, .slice C i.f4.length d] 29))
  have HS := Lib.hid (blk_alloc (blk_alloc (blk_new w (.cells #[.slice a.AW W.length a.cW, .slice a.AI a.nI a.cI, .slice a.AN a.nN a.cN, .slice a.AB B.length a.cB, .slice a.AV a.nV a.cV] 27)) (.cells #[.int .i64 t.f0, .string t.f1, .string t.f2, .int .i64 t.f3, .slice A t.f4.length c] 29)) (.cells #[.int .i64 i.f0, .string i.f1, .string i.f2, .int .i64 i.f3, .slice C i.f4.length d] 29))
  have HT := Lib.hid (blk_alloc ((show ((w.alloc (.cells #[.slice a.AW W.length a.cW, .slice a.AI a.nI a.cI, .slice a.AN a.nN a.cN, .slice a.AB B.length a.cB, .slice a.AV a.nV a.cV] 27)).alloc (.cells #[.int .i64 t.f0, .string t.f1, .string t.f2, .int .i64 t.f3, .slice A t.f4.length c] 29)).heap[w.heap.size + 1]? = some (.cells #[.int .i64 t.f0, .string t.f1, .string t.f2, .int .i64 t.f3, .slice A t.f4.length c] 29 (0, 0)) from blk_newR _ _ _ (by simp))) (.cells #[.int .i64 i.f0, .string i.f1, .string i.f2, .int .i64 i.f3, .slice C i.f4.length d] 29))
  have HX := Lib.hid ((show (((w.alloc (.cells #[.slice a.AW W.length a.cW, .slice a.AI a.nI a.cI, .slice a.AN a.nN a.cN, .slice a.AB B.length a.cB, .slice a.AV a.nV a.cV] 27)).alloc (.cells #[.int .i64 t.f0, .string t.f1, .string t.f2, .int .i64 t.f3, .slice A t.f4.length c] 29)).alloc (.cells #[.int .i64 i.f0, .string i.f1, .string i.f2, .int .i64 i.f3, .slice C i.f4.length d] 29)).heap[w.heap.size + 1 + 1]? = some (.cells #[.int .i64 i.f0, .string i.f1, .string i.f2, .int .i64 i.f3, .slice C i.f4.length d] 29 (0, 0)) from blk_newR _ _ _ (by simp)))
  have HAL := Lib.hid (ref_alike_any (tyAll t) i A C c d _ (Kd.C_below hA HB.out) hc (Kd.C_below hC HB.out) hd)
  have HME := Lib.hid (fun W' (hb : Below w.heap.size w W') => ref_meets_any a W B t i A C c d W' (hW.later hb) ok (Kd.C_below hA hb) hc (Kd.C_below hC hb) hd)
  unfold assignP
  generalize alikeT t i = ab at *
  generalize meetsP W B t i = mb at *
  clear hW ok hA hC hc hd
  simp only [scV, tyV] at *
  by_cases h7 : t.f0 = 7
  · have e7 : (t.f0 == 7) = true := by simp [h7]
    rw [if_pos h7]
    clear h7
    go_enter Try.func32, Try.ntmps32
    go_wp2_with (fail)
    go_ret
    exact ⟨rfl, HB.out⟩
  · have e7 : (t.f0 == 7) = false := beq_eq_false_iff_ne.2 h7
    rw [if_neg h7]
    by_cases h7' : i.f0 = 7
    · have e7' : (i.f0 == 7) = true := by simp [h7']
      rw [if_pos h7']
      clear h7 h7'
      go_enter Try.func32, Try.ntmps32
      go_wp2_with (fail)
      go_ret
      exact ⟨rfl, HB.out⟩
    · have e7' : (i.f0 == 7) = false := beq_eq_false_iff_ne.2 h7'
      rw [if_neg h7']
      clear h7 h7'
      cases ab with
      | true =>
        go_enter Try.func32, Try.ntmps32
        go_wp2_with (fail)
        refine HAL.out.mono ?_
        rintro e w1 ⟨rfl, hb⟩
        replace HB := Lib.hid (bel_trans HB.out hb)
        clear hb
        go_wp2_with (fail)
        go_ret
        exact ⟨rfl, HB.out⟩
      | false =>
        go_enter Try.func32, Try.ntmps32
        go_wp2_with (fail)
        refine (HAL.out).mono ?_
        rintro e w1 ⟨rfl, hb⟩
        replace HS := Lib.hid (blk_later hb HS.out)
        replace HT := Lib.hid (blk_later hb HT.out)
        replace HX := Lib.hid (blk_later hb HX.out)
        replace HB := Lib.hid (bel_trans HB.out hb)
        clear hb
        have s0 := (blk_cell HS.out 0).trans rfl
        have s1 := (blk_cell HS.out 1).trans rfl
        have s2 := (blk_cell HS.out 2).trans rfl
        have s3 := (blk_cell HS.out 3).trans rfl
        have s4 := (blk_cell HS.out 4).trans rfl
        have t0 := (blk_cell HT.out 0).trans rfl
        have t1 := (blk_cell HT.out 1).trans rfl
        have t2 := (blk_cell HT.out 2).trans rfl
        have t3 := (blk_cell HT.out 3).trans rfl
        have t4 := (blk_cell HT.out 4).trans rfl
        have v0 := (blk_cell HX.out 0).trans rfl
        have v1 := (blk_cell HX.out 1).trans rfl
        have v2 := (blk_cell HX.out 2).trans rfl
        have v3 := (blk_cell HX.out 3).trans rfl
        have v4 := (blk_cell HX.out 4).trans rfl
        go_wp2_with (fail)
        refine (HME.out _ HB.out).mono ?_
        rintro e w1 ⟨rfl, hb⟩
        replace HB := Lib.hid (bel_trans HB.out hb)
        clear hb
        go_wp2_with (fail)
        go_ret
        exact ⟨by simp, HB.out⟩
end Go.Proofs.Ytbhagjhhgmmcgaa
