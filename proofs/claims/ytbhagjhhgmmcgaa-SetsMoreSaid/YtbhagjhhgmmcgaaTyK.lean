/- sets.Find. -/
import Derived.Test.YtbhagjhhgmmcgaaTyJ
namespace Go.Proofs.Ytbhagjhhgmmcgaa
open Go.RowKit PRef Go.Proofs.YtbhagjhhgmmcgaaW.PrintWords
set_option linter.unusedVariables false

theorem find1_any {t0 : Int} {t1 t2 : ByteArray} {t3 : Int} {A : Option Addr} {n c g : Nat} {W : World} (hg : W.heap[g]? = some (.cells #[.int .i64 t0, .string t1, .string t2, .int .i64 t3, .slice A n c] 29 (0, 0))) (s : ByteArray) (A1 A2 : Option Addr) (n1 c1 n2 c2 : Nat) :
    Calls Try.prog 50 #[.agg #[.string s, .slice A1 n1 c1, .slice A2 n2 c2], .pointer (some ⟨g, 0, none⟩)] W fun e W' => e = .returned (.bool (decide (s = t1 ∧ t0 = 4))) ∧ Below W.heap.size W W' := by
  have hg2 := blk_alloc hg (.cells #[.string s, .slice A1 n1 c1, .slice A2 n2 c2] 74)
  have x0 := (blk_cell hg2 0).trans rfl
  have x1 := (blk_cell hg2 1).trans rfl
  have HB := Lib.hid (bel_alloc (Below.refl W.heap.size W) (.cells #[.string s, .slice A1 n1 c1, .slice A2 n2 c2] 74))
  clear hg hg2
  by_cases hs : s = t1
  · subst hs
    by_cases h4 : t0 = 4
    · have e4 : (t0 == 4) = true := by simp [h4]
      rw [show decide (s = s ∧ t0 = 4) = true by simp [h4]]
      clear h4
      go_enter Try.func50, Try.ntmps50
      go_wp2_with (fail)
      go_ret
      exact ⟨rfl, HB.out⟩
    · have e4 : (t0 == 4) = false := beq_eq_false_iff_ne.2 h4
      rw [show decide (s = s ∧ t0 = 4) = false by simp [h4]]
      go_enter Try.func50, Try.ntmps50
      go_wp2_with (fail)
      go_ret
      exact ⟨rfl, HB.out⟩
  · have s0 := ba_ne hs
    have s1 := ba_neP hs
    rw [show decide (s = t1 ∧ t0 = 4) = false by simp [hs]]
    go_enter Try.func50, Try.ntmps50
    go_wp2_with (fail)
    go_ret
    exact ⟨rfl, HB.out⟩
theorem find2_any {t0 : Int} {t1 t2 : ByteArray} {t3 : Int} {A : Option Addr} {n c g : Nat} {W : World} (hg : W.heap[g]? = some (.cells #[.int .i64 t0, .string t1, .string t2, .int .i64 t3, .slice A n c] 29 (0, 0))) (s : ByteArray) (b : Bool) (A1 A2 : Option Addr) (n1 c1 n2 c2 : Nat) :
    Calls Try.prog 52 #[.agg #[.string s, .bool b, .slice A1 n1 c1, .slice A2 n2 c2], .pointer (some ⟨g, 0, none⟩)] W fun e W' => e = .returned (.bool (decide (s = t2))) ∧ Below W.heap.size W W' := by
  have hg2 := blk_alloc hg (.cells #[.string s, .bool b, .slice A1 n1 c1, .slice A2 n2 c2] 35)
  have x2 := (blk_cell hg2 2).trans rfl
  have HB := Lib.hid (bel_alloc (Below.refl W.heap.size W) (.cells #[.string s, .bool b, .slice A1 n1 c1, .slice A2 n2 c2] 35))
  clear hg hg2
  by_cases hs : s = t2
  · subst hs
    rw [show decide (s = s) = true by simp]
    go_enter Try.func52, Try.ntmps52
    go_wp2_with (fail)
    go_ret
    exact ⟨rfl, HB.out⟩
  · have s0 := ba_ne hs
    have s1 := ba_neP hs
    rw [show decide (s = t2) = false by simp [hs]]
    go_enter Try.func52, Try.ntmps52
    go_wp2_with (fail)
    go_ret
    exact ⟨rfl, HB.out⟩
theorem field1_any {nm : ByteArray} {d0 : ByteArray} {d1 : Bool} {v2 v3 : Value} {g g' : Nat} {W : World} (hg : W.heap[g]? = some (.cells #[.string nm] 9 (0, 0))) (hg' : W.heap[g']? = some (.cells #[.string d0, .bool d1, v2, v3] 35 (0, 0))) (s : ByteArray) (i1 : Int) (s2 s3 : ByteArray) (i4 : Int) (A5 : Option Addr) (n5 c5 : Nat) :
    Calls Try.prog 56 #[.agg #[.string s, .int .i64 i1, .string s2, .string s3, .int .i64 i4, .slice A5 n5 c5], .pointer (some ⟨g, 0, none⟩), .pointer (some ⟨g', 0, none⟩)] W fun e W' => e = .returned (.bool (decide (s = nm) && d1)) ∧ Below W.heap.size W W' := by
  have hg2 := blk_alloc hg (.cells #[.string s, .int .i64 i1, .string s2, .string s3, .int .i64 i4, .slice A5 n5 c5] 83)
  have hg3 := blk_alloc hg' (.cells #[.string s, .int .i64 i1, .string s2, .string s3, .int .i64 i4, .slice A5 n5 c5] 83)
  have x0 := (blk_cell hg2 0).trans rfl
  have y1 := (blk_cell hg3 1).trans rfl
  have HB := Lib.hid (bel_alloc (Below.refl W.heap.size W) (.cells #[.string s, .int .i64 i1, .string s2, .string s3, .int .i64 i4, .slice A5 n5 c5] 83))
  clear hg hg2 hg' hg3
  by_cases hs : s = nm
  · subst hs
    rw [show (decide (s = s) && d1) = d1 by simp]
    go_enter Try.func56, Try.ntmps56
    go_wp2_with (fail)
    go_ret
    exact ⟨rfl, HB.out⟩
  · have s0 := ba_ne hs
    have s1 := ba_neP hs
    rw [show (decide (s = nm) && d1) = false by simp [hs]]
    go_enter Try.func56, Try.ntmps56
    go_wp2_with (fail)
    go_ret
    exact ⟨rfl, HB.out⟩
theorem meets1_any {nm : ByteArray} {v1 v2 v3 v4 v5 v6 : Value} {g : Nat} {W : World} (hg : W.heap[g]? = some (.cells #[.string nm, v1, v2, v3, v4, v5, v6] 50 (0, 0))) (s : ByteArray) (A1 : Option Addr) (n1 c1 : Nat) (i2 : Int) (s3 s4 : ByteArray) (i5 : Int) (A6 : Option Addr) (n6 c6 : Nat) :
    Calls Try.prog 60 #[.agg #[.string s, .slice A1 n1 c1, .int .i64 i2, .string s3, .string s4, .int .i64 i5, .slice A6 n6 c6], .pointer (some ⟨g, 0, none⟩)] W fun e W' => e = .returned (.bool (decide (s = nm))) ∧ Below W.heap.size W W' := by
  have hg2 := blk_alloc hg (.cells #[.string s, .slice A1 n1 c1, .int .i64 i2, .string s3, .string s4, .int .i64 i5, .slice A6 n6 c6] 50)
  have x0 := (blk_cell hg2 0).trans rfl
  have HB := Lib.hid (bel_alloc (Below.refl W.heap.size W) (.cells #[.string s, .slice A1 n1 c1, .int .i64 i2, .string s3, .string s4, .int .i64 i5, .slice A6 n6 c6] 50))
  clear hg hg2
  by_cases hs : s = nm
  · subst hs
    rw [show decide (s = s) = true by simp]
    go_enter Try.func60, Try.ntmps60
    go_wp2_with (fail)
    go_ret
    exact ⟨rfl, HB.out⟩
  · have s0 := ba_ne hs
    have s1 := ba_neP hs
    rw [show decide (s = nm) = false by simp [hs]]
    go_enter Try.func60, Try.ntmps60
    go_wp2_with (fail)
    go_ret
    exact ⟨rfl, HB.out⟩

def zDcl : Dcl := ⟨⟨#[]⟩, false, [], []⟩
/-- What a named type is declared to be. -/
def findP (W : List Ifc) (t : Ty) : Option Dcl := (W.find? fun p => decide (p.f0 = t.f1 ∧ t.f0 = 4)).bind fun p => p.f1.find? fun d => decide (d.f0 = t.f2)
/-- Where a scope's slices lie. -/
structure ScA where
  AW : Option Addr
  cW : Nat
  AI : Option Addr
  nI : Nat
  cI : Nat
  AN : Option Addr
  nN : Nat
  cN : Nat
  AB : Option Addr
  cB : Nat
  AV : Option Addr
  nV : Nat
  cV : Nat
def scV (a : ScA) (W : List Ifc) (B : List Ty) : Value := .agg #[.slice a.AW W.length a.cW, .slice a.AI a.nI a.cI, .slice a.AN a.nN a.cN, .slice a.AB B.length a.cB, .slice a.AV a.nV a.cV]
structure ScC (a : ScA) (W : List Ifc) (B : List Ty) (w : World) : Prop where
  w_ : Kd.C kIfc w a.AW W.length W
  wc : W.length ≤ a.cW
  b_ : Kd.C kTy w a.AB B.length B
  bc : B.length ≤ a.cB
theorem ScC.later {a : ScA} {W : List Ifc} {B : List Ty} {w w' : World} (h : ScC a W B w) (hb : Below w.heap.size w w') : ScC a W B w' := ⟨Kd.C_below h.w_ hb, h.wc, Kd.C_below h.b_ hb, h.bc⟩
/-- Each declared type can be copied. -/
def WOk (W : List Ifc) : Prop := ∀ p ∈ W, ∀ d ∈ p.f1, DclOk d
theorem zDcl_ok : DclOk zDcl := ⟨by decide, by decide, by simp [zDcl], by simp [zDcl]⟩

set_option maxRecDepth 100000 in
set_option maxHeartbeats 4000000 in
theorem find_any (a : ScA) (W : List Ifc) (B : List Ty) (t : Ty) (A : Option Addr) (c : Nat) (w : World) (hW : ScC a W B w) (ok : WOk W) :
    Calls Try.prog 16 #[scV a W B, tyV t A c] w fun e w' => ∃ A' c' B' d', e = .returned (.tuple #[dclV ((findP W t).getD zDcl) A' c' B' d', .bool (findP W t).isSome]) ∧ ((findP W t).getD zDcl).f2.length ≤ c' ∧ Kd.F kFld w' (fun b => w.heap.size ≤ b) A' ((findP W t).getD zDcl).f2.length ((findP W t).getD zDcl).f2 ∧ ((findP W t).getD zDcl).f3.length ≤ d' ∧ Kd.F kMth w' (fun b => w.heap.size ≤ b) B' ((findP W t).getD zDcl).f3.length ((findP W t).getD zDcl).f3 ∧ Below w.heap.size w w' := by
  have HW := Lib.hid (hW.later (bel_alloc (bel_alloc (bel_alloc (Below.refl w.heap.size w) (.cells #[.slice a.AW W.length a.cW, .slice a.AI a.nI a.cI, .slice a.AN a.nN a.cN, .slice a.AB B.length a.cB, .slice a.AV a.nV a.cV] 27)) (.cells #[.int .i64 t.f0, .string t.f1, .string t.f2, .int .i64 t.f3, .slice A t.f4.length c] 29)) (.cells #[.string ⟨#[]⟩, .bool false, .slice none 0 0, .slice none 0 0] 35)))
  have HB := Lib.hid (bel_alloc (bel_alloc (bel_alloc (Below.refl w.heap.size w) (.cells #[.slice a.AW W.length a.cW, .slice a.AI a.nI a.cI, .slice a.AN a.nN a.cN, .slice a.AB B.length a.cB, .slice a.AV a.nV a.cV] 27)) (.cells #[.int .i64 t.f0, .string t.f1, .string t.f2, .int .i64 t.f3, .slice A t.f4.length c] 29)) (.cells #[.string ⟨#[]⟩, .bool false, .slice none 0 0, .slice none 0 0] 35))
  have HT := Lib.hid (blk_alloc (show ((w.alloc (.cells #[.slice a.AW W.length a.cW, .slice a.AI a.nI a.cI, .slice a.AN a.nN a.cN, .slice a.AB B.length a.cB, .slice a.AV a.nV a.cV] 27)).alloc (.cells #[.int .i64 t.f0, .string t.f1, .string t.f2, .int .i64 t.f3, .slice A t.f4.length c] 29)).heap[w.heap.size + 1]? = _ by simpa using blk_new (w.alloc (.cells #[.slice a.AW W.length a.cW, .slice a.AI a.nI a.cI, .slice a.AN a.nN a.cN, .slice a.AB B.length a.cB, .slice a.AV a.nV a.cV] 27)) (.cells #[.int .i64 t.f0, .string t.f1, .string t.f2, .int .i64 t.f3, .slice A t.f4.length c] 29)) (.cells #[.string ⟨#[]⟩, .bool false, .slice none 0 0, .slice none 0 0] 35))
  have HR := Lib.hid (show (((w.alloc (.cells #[.slice a.AW W.length a.cW, .slice a.AI a.nI a.cI, .slice a.AN a.nN a.cN, .slice a.AB B.length a.cB, .slice a.AV a.nV a.cV] 27)).alloc (.cells #[.int .i64 t.f0, .string t.f1, .string t.f2, .int .i64 t.f3, .slice A t.f4.length c] 29)).alloc (.cells #[.string ⟨#[]⟩, .bool false, .slice none 0 0, .slice none 0 0] 35)).heap[w.heap.size + 1 + 1]? = some (.cells #[.string ⟨#[]⟩, .bool false, .slice none 0 0, .slice none 0 0] 35 (0, 0)) by have h := blk_new ((w.alloc (.cells #[.slice a.AW W.length a.cW, .slice a.AI a.nI a.cI, .slice a.AN a.nN a.cN, .slice a.AB B.length a.cB, .slice a.AV a.nV a.cV] 27)).alloc (.cells #[.int .i64 t.f0, .string t.f1, .string t.f2, .int .i64 t.f3, .slice A t.f4.length c] 29)) (.cells #[.string ⟨#[]⟩, .bool false, .slice none 0 0, .slice none 0 0] 35); simp only [World.size_alloc] at h; exact h)
  have HOK := Lib.hid ok
  clear hW ok
  simp only [scV, tyV]
  cases h1 : W.find? (fun p => decide (p.f0 = t.f1 ∧ t.f0 = 4)) with
  | none =>
    have hP : findP W t = none := by unfold findP; rw [h1]; rfl
    rw [hP]
    simp only [Option.getD_none, Option.isSome_none]
    clear hP
    have HC1 := Lib.hid (firstIfc_none (fun p => decide (p.f0 = t.f1 ∧ t.f0 = 4)) W a.AW a.cW ⟨w.heap.size + 1, 0, none⟩ _ HW.out.w_ HW.out.wc (fun x hx A1 c1 A2 c2 W' hb => find1_any (blk_later hb HT.out) x.f0 A1 A2 x.f1.length c1 x.f2.length c2) h1)
    clear h1
    go_enter Try.func16, Try.ntmps16
    go_wp2_with (fail)
    refine HC1.out.mono ?_
    rintro e w1 ⟨rfl, hb⟩
    replace HB := Lib.hid (bel_alloc (bel_trans HB.out hb) (.cells #[.string ⟨#[]⟩, .slice none 0 0, .slice none 0 0] 74))
    replace HT := Lib.hid (blk_alloc (blk_later hb HT.out) (.cells #[.string ⟨#[]⟩, .slice none 0 0, .slice none 0 0] 74))
    replace HR := Lib.hid (blk_alloc (blk_later hb HR.out) (.cells #[.string ⟨#[]⟩, .slice none 0 0, .slice none 0 0] 74))
    have i0 := (blk_cell (blk_new w1 (.cells #[.string ⟨#[]⟩, .slice none 0 0, .slice none 0 0] 74)) 1).trans rfl
    have HL := Lib.hid (show Kd.C kDcl (w1.alloc (.cells #[.string ⟨#[]⟩, .slice none 0 0, .slice none 0 0] 74)) none ([] : List Dcl).length [] from ⟨rfl, by simp, fun h => by simp at h⟩)
    have HLC := Lib.hid (show ([] : List Dcl).length ≤ 0 from Nat.le_refl _)
    clear hb
    have HC2 := Lib.hid (firstDcl_none (fun d => decide (d.f0 = t.f2)) ([] : List Dcl) none 0 ⟨w.heap.size + 1, 0, none⟩ _ HL.out HLC.out (fun x hx A2 c2 A3 c3 W' hb => find2_any (blk_later hb HT.out) x.f0 x.f1 A2 A3 x.f2.length c2 x.f3.length c3) rfl)
    go_wp2_with (fail)
    refine HC2.out.mono ?_
    rintro e w2 ⟨rfl, hb⟩
    replace HB := Lib.hid (bel_alloc (bel_trans HB.out hb) (.cells #[.string ⟨#[]⟩, .bool false, .slice none 0 0, .slice none 0 0] 35))
    replace HT := Lib.hid (blk_alloc (blk_later hb HT.out) (.cells #[.string ⟨#[]⟩, .bool false, .slice none 0 0, .slice none 0 0] 35))
    replace HR := Lib.hid (blk_alloc (blk_later hb HR.out) (.cells #[.string ⟨#[]⟩, .bool false, .slice none 0 0, .slice none 0 0] 35))
    have d0 := (blk_cell (blk_new w2 (.cells #[.string ⟨#[]⟩, .bool false, .slice none 0 0, .slice none 0 0] 35)) 0).trans rfl
    have d1 := (blk_cell (blk_new w2 (.cells #[.string ⟨#[]⟩, .bool false, .slice none 0 0, .slice none 0 0] 35)) 1).trans rfl
    have d2 := (blk_cell (blk_new w2 (.cells #[.string ⟨#[]⟩, .bool false, .slice none 0 0, .slice none 0 0] 35)) 2).trans rfl
    have d3 := (blk_cell (blk_new w2 (.cells #[.string ⟨#[]⟩, .bool false, .slice none 0 0, .slice none 0 0] 35)) 3).trans rfl
    have HSL := Lib.hid (blk_lt HR.out)
    have HO := Lib.hid (ownDcl_any zDcl zDcl_ok none 0 none 0 (w2.alloc (.cells #[.string ⟨#[]⟩, .bool false, .slice none 0 0, .slice none 0 0] 35)) ⟨rfl, by simp [zDcl], fun h => by simp [zDcl] at h⟩ (Nat.zero_le _) ⟨rfl, by simp [zDcl], fun h => by simp [zDcl] at h⟩ (Nat.zero_le _))
    clear hb
    simp only [dclV, zDcl, List.length_nil] at HO
    go_wp2_with (fail)
    refine HO.out.mono ?_
    rintro e w3 ⟨A', c', B', d', rfl, k1, k2, k3, k4, hb⟩
    replace HB := Lib.hid (bel_trans HB.out hb)
    replace HR := Lib.hid (blk_later hb HR.out)
    have HK1 := Lib.hid k1
    have HK3 := Lib.hid k3
    have HS2 := HSL
    have HK2 := Lib.hid k2
    have HK4 := Lib.hid k4
    clear k1 k2 k3 k4 hb
    have r0 := (blk_cell HR.out 0).trans rfl
    have r1 := (blk_cell HR.out 1).trans rfl
    have r2 := (blk_cell HR.out 2).trans rfl
    have r3 := (blk_cell HR.out 3).trans rfl
    have f0 := blk_free HR.out 0
    have f1 := blk_free HR.out 1
    have f2 := blk_free HR.out 2
    have f3 := blk_free HR.out 3
    clear d0 d1 d2 d3 i0
    go_wp2_with (fail)
    have hE := blk_set (blk_set (blk_set (blk_set HR.out 0 (.string ⟨#[]⟩)) 1 (.bool false)) 2 (.slice A' 0 c')) 3 (.slice B' 0 d')
    have hfar : ∀ b, b ≠ w.heap.size + 1 + 1 → ((((w3.setCell ⟨w.heap.size + 1 + 1, 0, none⟩ (.string ⟨#[]⟩)).setCell ⟨w.heap.size + 1 + 1, 1, none⟩ (.bool false)).setCell ⟨w.heap.size + 1 + 1, 2, none⟩ (.slice A' 0 c')).setCell ⟨w.heap.size + 1 + 1, 3, none⟩ (.slice B' 0 d')).heap[b]? = w3.heap[b]? := by
      intro b hne
      rw [blk_far _ _ _ _ _ hne, blk_far _ _ _ _ _ hne, blk_far _ _ _ _ _ hne, blk_far _ _ _ _ _ hne]
    have hs2 := HS2.out
    refine cell_tmp_end rfl (hE.trans rfl) Try.underlying35 sizeDcl' rfl rfl rfl ⟨A', c', B', d', rfl, HK1.out, ?_, HK3.out, ?_, ?_⟩
    · exact Kd.F_mono (Kd.F_step HK2.out (fun b hb _ => hfar b (by omega))) (fun b hb => by omega)
    · exact Kd.F_mono (Kd.F_step HK4.out (fun b hb _ => hfar b (by omega))) (fun b hb => by omega)
    · iterate 4 refine Below.setCell ?_ (by simp only; omega) _
      exact HB.out
  | some p =>
    cases h2 : p.f1.find? (fun d => decide (d.f0 = t.f2)) with
    | none =>
      have hP : findP W t = none := by unfold findP; rw [h1]; exact h2
      rw [hP]
      simp only [Option.getD_none, Option.isSome_none]
      clear hP
      have HC1 := Lib.hid (firstIfc_some (fun p => decide (p.f0 = t.f1 ∧ t.f0 = 4)) W a.AW a.cW ⟨w.heap.size + 1, 0, none⟩ _ HW.out.w_ HW.out.wc (fun x hx A1 c1 A2 c2 W' hb => find1_any (blk_later hb HT.out) x.f0 A1 A2 x.f1.length c1 x.f2.length c2) p h1)
      have HPM := Lib.hid (List.mem_of_find?_eq_some h1)
      clear h1
      go_enter Try.func16, Try.ntmps16
      go_wp2_with (fail)
      refine HC1.out.mono ?_
      rintro e w1 ⟨A1, c1, A2, c2, rfl, k1, k2, k3, k4, hb⟩
      replace HB := Lib.hid (bel_alloc (bel_trans HB.out hb) (.cells #[.string p.f0, .slice A1 p.f1.length c1, .slice A2 p.f2.length c2] 74))
      replace HT := Lib.hid (blk_alloc (blk_later hb HT.out) (.cells #[.string p.f0, .slice A1 p.f1.length c1, .slice A2 p.f2.length c2] 74))
      replace HR := Lib.hid (blk_alloc (blk_later hb HR.out) (.cells #[.string p.f0, .slice A1 p.f1.length c1, .slice A2 p.f2.length c2] 74))
      have i0 := (blk_cell (blk_new w1 (.cells #[.string p.f0, .slice A1 p.f1.length c1, .slice A2 p.f2.length c2] 74)) 1).trans rfl
      have HL := Lib.hid (Kd.C_below k2 (bel_alloc (Below.refl _ _) (.cells #[.string p.f0, .slice A1 p.f1.length c1, .slice A2 p.f2.length c2] 74)))
      have HLC := Lib.hid k1
      clear hb k1 k2 k3 k4
      have HC2 := Lib.hid (firstDcl_none (fun d => decide (d.f0 = t.f2)) p.f1 A1 c1 ⟨w.heap.size + 1, 0, none⟩ _ HL.out HLC.out (fun x hx A2 c2 A3 c3 W' hb => find2_any (blk_later hb HT.out) x.f0 x.f1 A2 A3 x.f2.length c2 x.f3.length c3) h2)
      clear h2
      go_wp2_with (fail)
      refine HC2.out.mono ?_
      rintro e w2 ⟨rfl, hb⟩
      replace HB := Lib.hid (bel_alloc (bel_trans HB.out hb) (.cells #[.string ⟨#[]⟩, .bool false, .slice none 0 0, .slice none 0 0] 35))
      replace HT := Lib.hid (blk_alloc (blk_later hb HT.out) (.cells #[.string ⟨#[]⟩, .bool false, .slice none 0 0, .slice none 0 0] 35))
      replace HR := Lib.hid (blk_alloc (blk_later hb HR.out) (.cells #[.string ⟨#[]⟩, .bool false, .slice none 0 0, .slice none 0 0] 35))
      have d0 := (blk_cell (blk_new w2 (.cells #[.string ⟨#[]⟩, .bool false, .slice none 0 0, .slice none 0 0] 35)) 0).trans rfl
      have d1 := (blk_cell (blk_new w2 (.cells #[.string ⟨#[]⟩, .bool false, .slice none 0 0, .slice none 0 0] 35)) 1).trans rfl
      have d2 := (blk_cell (blk_new w2 (.cells #[.string ⟨#[]⟩, .bool false, .slice none 0 0, .slice none 0 0] 35)) 2).trans rfl
      have d3 := (blk_cell (blk_new w2 (.cells #[.string ⟨#[]⟩, .bool false, .slice none 0 0, .slice none 0 0] 35)) 3).trans rfl
      have HSL := Lib.hid (blk_lt HR.out)
      have HO := Lib.hid (ownDcl_any zDcl zDcl_ok none 0 none 0 (w2.alloc (.cells #[.string ⟨#[]⟩, .bool false, .slice none 0 0, .slice none 0 0] 35)) ⟨rfl, by simp [zDcl], fun h => by simp [zDcl] at h⟩ (Nat.zero_le _) ⟨rfl, by simp [zDcl], fun h => by simp [zDcl] at h⟩ (Nat.zero_le _))
      clear hb
      simp only [dclV, zDcl, List.length_nil] at HO
      go_wp2_with (fail)
      refine HO.out.mono ?_
      rintro e w3 ⟨A', c', B', d', rfl, k1, k2, k3, k4, hb⟩
      replace HB := Lib.hid (bel_trans HB.out hb)
      replace HR := Lib.hid (blk_later hb HR.out)
      have HK1 := Lib.hid k1
      have HK3 := Lib.hid k3
      have HS2 := HSL
      have HK2 := Lib.hid k2
      have HK4 := Lib.hid k4
      clear k1 k2 k3 k4 hb
      have r0 := (blk_cell HR.out 0).trans rfl
      have r1 := (blk_cell HR.out 1).trans rfl
      have r2 := (blk_cell HR.out 2).trans rfl
      have r3 := (blk_cell HR.out 3).trans rfl
      have f0 := blk_free HR.out 0
      have f1 := blk_free HR.out 1
      have f2 := blk_free HR.out 2
      have f3 := blk_free HR.out 3
      clear d0 d1 d2 d3 i0
      go_wp2_with (fail)
      have hE := blk_set (blk_set (blk_set (blk_set HR.out 0 (.string ⟨#[]⟩)) 1 (.bool false)) 2 (.slice A' 0 c')) 3 (.slice B' 0 d')
      have hfar : ∀ b, b ≠ w.heap.size + 1 + 1 → ((((w3.setCell ⟨w.heap.size + 1 + 1, 0, none⟩ (.string ⟨#[]⟩)).setCell ⟨w.heap.size + 1 + 1, 1, none⟩ (.bool false)).setCell ⟨w.heap.size + 1 + 1, 2, none⟩ (.slice A' 0 c')).setCell ⟨w.heap.size + 1 + 1, 3, none⟩ (.slice B' 0 d')).heap[b]? = w3.heap[b]? := by
        intro b hne
        rw [blk_far _ _ _ _ _ hne, blk_far _ _ _ _ _ hne, blk_far _ _ _ _ _ hne, blk_far _ _ _ _ _ hne]
      have hs2 := HS2.out
      refine cell_tmp_end rfl (hE.trans rfl) Try.underlying35 sizeDcl' rfl rfl rfl ⟨A', c', B', d', rfl, HK1.out, ?_, HK3.out, ?_, ?_⟩
      · exact Kd.F_mono (Kd.F_step HK2.out (fun b hb _ => hfar b (by omega))) (fun b hb => by omega)
      · exact Kd.F_mono (Kd.F_step HK4.out (fun b hb _ => hfar b (by omega))) (fun b hb => by omega)
      · iterate 4 refine Below.setCell ?_ (by simp only; omega) _
        exact HB.out
    | some x =>
      have hP : findP W t = some x := by unfold findP; rw [h1]; exact h2
      rw [hP]
      simp only [Option.getD_some, Option.isSome_some]
      clear hP
      have HC1 := Lib.hid (firstIfc_some (fun p => decide (p.f0 = t.f1 ∧ t.f0 = 4)) W a.AW a.cW ⟨w.heap.size + 1, 0, none⟩ _ HW.out.w_ HW.out.wc (fun x hx A1 c1 A2 c2 W' hb => find1_any (blk_later hb HT.out) x.f0 A1 A2 x.f1.length c1 x.f2.length c2) p h1)
      have HPM := Lib.hid (List.mem_of_find?_eq_some h1)
      clear h1
      go_enter Try.func16, Try.ntmps16
      go_wp2_with (fail)
      refine HC1.out.mono ?_
      rintro e w1 ⟨A1, c1, A2, c2, rfl, k1, k2, k3, k4, hb⟩
      replace HB := Lib.hid (bel_alloc (bel_trans HB.out hb) (.cells #[.string p.f0, .slice A1 p.f1.length c1, .slice A2 p.f2.length c2] 74))
      replace HT := Lib.hid (blk_alloc (blk_later hb HT.out) (.cells #[.string p.f0, .slice A1 p.f1.length c1, .slice A2 p.f2.length c2] 74))
      replace HR := Lib.hid (blk_alloc (blk_later hb HR.out) (.cells #[.string p.f0, .slice A1 p.f1.length c1, .slice A2 p.f2.length c2] 74))
      have i0 := (blk_cell (blk_new w1 (.cells #[.string p.f0, .slice A1 p.f1.length c1, .slice A2 p.f2.length c2] 74)) 1).trans rfl
      have HL := Lib.hid (Kd.C_below k2 (bel_alloc (Below.refl _ _) (.cells #[.string p.f0, .slice A1 p.f1.length c1, .slice A2 p.f2.length c2] 74)))
      have HLC := Lib.hid k1
      clear hb k1 k2 k3 k4
      have HC2 := Lib.hid (firstDcl_some (fun d => decide (d.f0 = t.f2)) p.f1 A1 c1 ⟨w.heap.size + 1, 0, none⟩ _ HL.out HLC.out (fun x hx A2 c2 A3 c3 W' hb => find2_any (blk_later hb HT.out) x.f0 x.f1 A2 A3 x.f2.length c2 x.f3.length c3) x h2)
      have HXM := Lib.hid (List.mem_of_find?_eq_some h2)
      clear h2
      go_wp2_with (fail)
      refine HC2.out.mono ?_
      rintro e w2 ⟨A3, c3, A4, c4, rfl, k1, k2, k3, k4, hb⟩
      replace HB := Lib.hid (bel_alloc (bel_trans HB.out hb) (.cells #[.string x.f0, .bool x.f1, .slice A3 x.f2.length c3, .slice A4 x.f3.length c4] 35))
      replace HT := Lib.hid (blk_alloc (blk_later hb HT.out) (.cells #[.string x.f0, .bool x.f1, .slice A3 x.f2.length c3, .slice A4 x.f3.length c4] 35))
      replace HR := Lib.hid (blk_alloc (blk_later hb HR.out) (.cells #[.string x.f0, .bool x.f1, .slice A3 x.f2.length c3, .slice A4 x.f3.length c4] 35))
      have d0 := (blk_cell (blk_new w2 (.cells #[.string x.f0, .bool x.f1, .slice A3 x.f2.length c3, .slice A4 x.f3.length c4] 35)) 0).trans rfl
      have d1 := (blk_cell (blk_new w2 (.cells #[.string x.f0, .bool x.f1, .slice A3 x.f2.length c3, .slice A4 x.f3.length c4] 35)) 1).trans rfl
      have d2 := (blk_cell (blk_new w2 (.cells #[.string x.f0, .bool x.f1, .slice A3 x.f2.length c3, .slice A4 x.f3.length c4] 35)) 2).trans rfl
      have d3 := (blk_cell (blk_new w2 (.cells #[.string x.f0, .bool x.f1, .slice A3 x.f2.length c3, .slice A4 x.f3.length c4] 35)) 3).trans rfl
      have HSL := Lib.hid (blk_lt HR.out)
      have HO := Lib.hid (ownDcl_any x (HOK.out p HPM.out x HXM.out) A3 c3 A4 c4 (w2.alloc (.cells #[.string x.f0, .bool x.f1, .slice A3 x.f2.length c3, .slice A4 x.f3.length c4] 35)) (Kd.C_below k2 (bel_alloc (Below.refl _ _) _)) k1 (Kd.C_below k4 (bel_alloc (Below.refl _ _) _)) k3)
      clear hb k1 k2 k3 k4
      simp only [dclV] at HO
      go_wp2_with (fail)
      refine HO.out.mono ?_
      rintro e w3 ⟨A', c', B', d', rfl, k1, k2, k3, k4, hb⟩
      replace HB := Lib.hid (bel_trans HB.out hb)
      replace HR := Lib.hid (blk_later hb HR.out)
      have HK1 := Lib.hid k1
      have HK3 := Lib.hid k3
      have HS2 := HSL
      have HK2 := Lib.hid k2
      have HK4 := Lib.hid k4
      clear k1 k2 k3 k4 hb
      have r0 := (blk_cell HR.out 0).trans rfl
      have r1 := (blk_cell HR.out 1).trans rfl
      have r2 := (blk_cell HR.out 2).trans rfl
      have r3 := (blk_cell HR.out 3).trans rfl
      have f0 := blk_free HR.out 0
      have f1 := blk_free HR.out 1
      have f2 := blk_free HR.out 2
      have f3 := blk_free HR.out 3
      clear d0 d1 d2 d3 i0
      go_wp2_with (fail)
      have hE := blk_set (blk_set (blk_set (blk_set HR.out 0 (.string x.f0)) 1 (.bool x.f1)) 2 (.slice A' x.f2.length c')) 3 (.slice B' x.f3.length d')
      have hfar : ∀ b, b ≠ w.heap.size + 1 + 1 → ((((w3.setCell ⟨w.heap.size + 1 + 1, 0, none⟩ (.string x.f0)).setCell ⟨w.heap.size + 1 + 1, 1, none⟩ (.bool x.f1)).setCell ⟨w.heap.size + 1 + 1, 2, none⟩ (.slice A' x.f2.length c')).setCell ⟨w.heap.size + 1 + 1, 3, none⟩ (.slice B' x.f3.length d')).heap[b]? = w3.heap[b]? := by
        intro b hne
        rw [blk_far _ _ _ _ _ hne, blk_far _ _ _ _ _ hne, blk_far _ _ _ _ _ hne, blk_far _ _ _ _ _ hne]
      have hs2 := HS2.out
      refine cell_tmp_end rfl (hE.trans rfl) Try.underlying35 sizeDcl' rfl rfl rfl ⟨A', c', B', d', rfl, HK1.out, ?_, HK3.out, ?_, ?_⟩
      · exact Kd.F_mono (Kd.F_step HK2.out (fun b hb _ => hfar b (by omega))) (fun b hb => by omega)
      · exact Kd.F_mono (Kd.F_step HK4.out (fun b hb _ => hfar b (by omega))) (fun b hb => by omega)
      · iterate 4 refine Below.setCell ?_ (by simp only; omega) _
        exact HB.out
end Go.Proofs.Ytbhagjhhgmmcgaa
