/- sets.Iface, Field, Methods. -/
import Derived.Test.YtbhagjhhgmmcgaaTyK
import Derived.StillTailTactics
namespace Go.Proofs.Ytbhagjhhgmmcgaa
open Go.RowKit PRef Go.Proofs.YtbhagjhhgmmcgaaW.PrintWords
set_option linter.unusedVariables false

def ifaceP (W : List Ifc) (t : Ty) : Bool := (findP W t).isSome && !((findP W t).getD zDcl).f1
abbrev zTy : Ty := z29
def fieldP (W : List Ifc) (t : Ty) (nm : ByteArray) : Option Fld := ((findP W t).getD zDcl).f2.find? fun f => decide (f.f0 = nm) && ((findP W t).getD zDcl).f1
def methodsP (W : List Ifc) (B : List Ty) (t : Ty) : List Mth :=
  if t.f0 = 6 then
    (if t.f3 < 0 ∨ (B.length : Int) ≤ t.f3 then []
     else if ifaceP W (rd_T29 B t.f3) = true then ((findP W (rd_T29 B t.f3)).getD zDcl).f3 else [])
  else ((findP W t).getD zDcl).f3

set_option maxRecDepth 100000 in
set_option maxHeartbeats 4000000 in
theorem iface_any (a : ScA) (W : List Ifc) (B : List Ty) (t : Ty) (A : Option Addr) (c : Nat) (w : World) (hW : ScC a W B w) (ok : WOk W) :
    Calls Try.prog 25 #[scV a W B, tyV t A c] w fun e w' => e = .returned (.bool (ifaceP W t)) ∧ Below w.heap.size w w' := by
  have HC := Lib.hid (find_any a W B t A c _ (hW.later (bel_alloc (bel_alloc (Below.refl w.heap.size w) (.cells #[.slice a.AW W.length a.cW, .slice a.AI a.nI a.cI, .slice a.AN a.nN a.cN, .slice a.AB B.length a.cB, .slice a.AV a.nV a.cV] 27)) (.cells #[.int .i64 t.f0, .string t.f1, .string t.f2, .int .i64 t.f3, .slice A t.f4.length c] 29))) ok)
  have HB := Lib.hid (bel_alloc (bel_alloc (Below.refl w.heap.size w) (.cells #[.slice a.AW W.length a.cW, .slice a.AI a.nI a.cI, .slice a.AN a.nN a.cN, .slice a.AB B.length a.cB, .slice a.AV a.nV a.cV] 27)) (.cells #[.int .i64 t.f0, .string t.f1, .string t.f2, .int .i64 t.f3, .slice A t.f4.length c] 29))
  unfold ifaceP
  generalize (findP W t).getD zDcl = x at *
  generalize (findP W t).isSome = b at *
  clear hW ok
  simp only [scV, tyV, dclV] at *
  cases b with
  | true =>
    go_enter Try.func25, Try.ntmps25
    go_wp2_with (fail)
    refine HC.out.mono ?_
    rintro e w1 ⟨A1, c1, B1, d1, rfl, _, _, _, _, hb⟩
    replace HB := Lib.hid (bel_alloc (bel_trans HB.out hb) (.cells #[.string x.f0, .bool x.f1, .slice A1 x.f2.length c1, .slice B1 x.f3.length d1] 35))
    clear hb
    go_wp2_with (fail)
    go_ret
    exact ⟨rfl, HB.out⟩
  | false =>
    go_enter Try.func25, Try.ntmps25
    go_wp2_with (fail)
    refine HC.out.mono ?_
    rintro e w1 ⟨A1, c1, B1, d1, rfl, _, _, _, _, hb⟩
    replace HB := Lib.hid (bel_alloc (bel_trans HB.out hb) (.cells #[.string x.f0, .bool x.f1, .slice A1 x.f2.length c1, .slice B1 x.f3.length d1] 35))
    clear hb
    go_wp2_with (fail)
    go_ret
    exact ⟨rfl, HB.out⟩

set_option maxRecDepth 100000 in
set_option maxHeartbeats 2000000 in
theorem firstFld_someF (q : Fld → Bool) (l : List Fld) (A : Option Addr) (c : Nat) (p p' : Addr) (w : World) {ok : Nat → Prop} (hFF : Kd.F kFld w ok A l.length l) (hc : l.length ≤ c)
    (hF : ∀ x ∈ l, ∀ (A5 : Option Addr) (c5 : Nat) (W : World), Below w.heap.size w W → Calls Try.prog 56 #[.agg #[.string x.f0, .int .i64 x.f1.f0, .string x.f1.f1, .string x.f1.f2, .int .i64 x.f1.f3, .slice A5 x.f1.f4.length c5], .pointer (some p), .pointer (some p')] W fun e W' => e = .returned (.bool (q x)) ∧ Below W.heap.size W W') (x : Fld) (hn : l.find? q = some x) :
    Calls Try.prog 55 #[.slice A l.length c, .func (.func 56) #[] #[.pointer (some p), .pointer (some p')]] w fun e W => ∃ A5 c5, e = .returned (.tuple #[.agg #[.string x.f0, .int .i64 x.f1.f0, .string x.f1.f1, .string x.f1.f2, .int .i64 x.f1.f3, .slice A5 x.f1.f4.length c5], .bool true]) ∧ x.f1.f4.length ≤ c5 ∧ Kd.F kTy W ok A5 x.f1.f4.length x.f1.f4 ∧ Below w.heap.size w W := by
  have hb0 := bel_alloc (Below.refl w.heap.size w) (.cells #[.string ⟨#[]⟩, .int .i64 0, .string ⟨#[]⟩, .string ⟨#[]⟩, .int .i64 0, .slice none 0 0] 83)
  have HI := Lib.hid (indexFld_any q l A c p p' _ (Kd.C_below (Kd.F_now hFF) hb0) hc (fun x hx A5 c5 W hb => hF x hx A5 c5 W (hb0.trans (hb.mono (by simp)))))
  obtain ⟨k, hk, hx⟩ := idxF_some q l 0 x hn
  rw [hk, Nat.zero_add] at HI
  have hlt : k < l.length := (List.getElem?_eq_some_iff.1 hx).1
  have HB0 := Lib.hid hb0
  have HR0 := Lib.hid (blk_new w (.cells #[.string ⟨#[]⟩, .int .i64 0, .string ⟨#[]⟩, .string ⟨#[]⟩, .int .i64 0, .slice none 0 0] 83))
  obtain ⟨ad, cs, hA1, hcl, hFK, hcell, _⟩ := Kd.F_get hFF z83 (k : Int) (by omega) (by omega)
  subst hA1
  rw [show l.getD (k : Int).toNat z83 = x from by rw [Int.toNat_natCast, List.getD_eq_getElem?_getD, hx]; rfl] at hFK
  obtain ⟨A5, c5, rfl, g0, g1⟩ := fld_openF hFK
  rw [Int.toNat_natCast] at hcell
  have x0 : w.cell? (ad.add (k * 6)) = some (.string x.f0) := hcell 0 _ rfl
  have x1 : w.cell? ⟨(ad.add (k * 6)).block, (ad.add (k * 6)).off + 1, none⟩ = some (.int .i64 x.f1.f0) := by have h := hcell 1 _ rfl; rw [← Addr.add_add] at h; exact h
  have x2 : w.cell? ⟨(ad.add (k * 6)).block, (ad.add (k * 6)).off + 2, none⟩ = some (.string x.f1.f1) := by have h := hcell 2 _ rfl; rw [← Addr.add_add] at h; exact h
  have x3 : w.cell? ⟨(ad.add (k * 6)).block, (ad.add (k * 6)).off + 3, none⟩ = some (.string x.f1.f2) := by have h := hcell 3 _ rfl; rw [← Addr.add_add] at h; exact h
  have x4 : w.cell? ⟨(ad.add (k * 6)).block, (ad.add (k * 6)).off + 4, none⟩ = some (.int .i64 x.f1.f3) := by have h := hcell 4 _ rfl; rw [← Addr.add_add] at h; exact h
  have x5 : w.cell? ⟨(ad.add (k * 6)).block, (ad.add (k * 6)).off + 5, none⟩ = some (.slice A5 x.f1.f4.length c5) := by have h := hcell 5 _ rfl; rw [← Addr.add_add] at h; exact h
  clear hcell hFK hcl
  have HXS := Lib.hid (And.intro x0 (And.intro x1 (And.intro x2 (And.intro x3 (And.intro x4 x5)))))
  have HG := Lib.hid (And.intro g0 g1)
  have HLM := Lib.hid (Kd.F_now hFF).2.1
  clear hF hFF hn hb0 hk hx x0 x1 x2 x3 x4 x5 g0 g1
  go_enter Try.func55, Try.ntmps55
  go_wp2_with (fail)
  refine HI.out.mono ?_
  rintro e w1 ⟨rfl, hb⟩
  have HBW := Lib.hid (bel_trans HB0.out hb)
  have HR := Lib.hid (blk_later hb HR0.out)
  clear hb
  obtain ⟨y0, y1, y2, y3, y4, y5⟩ := HXS.out
  have x0 := cell_later HBW.out y0
  have x1 := cell_later HBW.out y1
  have x2 := cell_later HBW.out y2
  have x3 := cell_later HBW.out y3
  have x4 := cell_later HBW.out y4
  have x5 := cell_later HBW.out y5
  have z0 := (blk_cell HR.out 0).trans rfl
  have z1 := (blk_cell HR.out 1).trans rfl
  have z2 := (blk_cell HR.out 2).trans rfl
  have z3 := (blk_cell HR.out 3).trans rfl
  have z4 := (blk_cell HR.out 4).trans rfl
  have z5 := (blk_cell HR.out 5).trans rfl
  have f0 := blk_free HR.out 0
  have f1 := blk_free HR.out 1
  have f2 := blk_free HR.out 2
  have f3 := blk_free HR.out 3
  have f4 := blk_free HR.out 4
  have f5 := blk_free HR.out 5
  have i0 : 0 ≤ (k : Int) := by omega
  have i1 : (k : Int) < l.length := by omega
  have i2 : ¬ (k : Int) < 0 := by omega
  clear y0 y1 y2 y3 y4 y5
  go_wp2_with (fail)
  have hE := blk_set (blk_set (blk_set (blk_set (blk_set (blk_set (HR.out) 0 (.string x.f0)) 1 (.int .i64 x.f1.f0)) 2 (.string x.f1.f1)) 3 (.string x.f1.f2)) 4 (.int .i64 x.f1.f3)) 5 (.slice A5 x.f1.f4.length c5)
  have hfin := Below.setCell (Below.setCell (Below.setCell (Below.setCell (Below.setCell (Below.setCell (HBW.out) (p := ⟨w.heap.size, 0, none⟩) (Nat.le_refl _) (.string x.f0)) (p := ⟨w.heap.size, 1, none⟩) (Nat.le_refl _) (.int .i64 x.f1.f0)) (p := ⟨w.heap.size, 2, none⟩) (Nat.le_refl _) (.string x.f1.f1)) (p := ⟨w.heap.size, 3, none⟩) (Nat.le_refl _) (.string x.f1.f2)) (p := ⟨w.heap.size, 4, none⟩) (Nat.le_refl _) (.int .i64 x.f1.f3)) (p := ⟨w.heap.size, 5, none⟩) (Nat.le_refl _) (.slice A5 x.f1.f4.length c5)
  refine cell_tmp_end rfl (hE.trans rfl) Try.underlying83 sizeFld' rfl rfl rfl ⟨A5, c5, rfl, HG.out.1, ?_, hfin⟩
  · exact Kd.F_below (HG.out.2) hfin

set_option maxRecDepth 100000 in
set_option maxHeartbeats 4000000 in
theorem field_any (a : ScA) (W : List Ifc) (B : List Ty) (t : Ty) (A : Option Addr) (c : Nat) (nm : ByteArray) (w : World) (hW : ScC a W B w) (ok : WOk W) :
    Calls Try.prog 18 #[scV a W B, tyV t A c, .string nm] w fun e w' => ∃ A' c', e = .returned (.tuple #[tyV (((fieldP W t nm).map (·.f1)).getD zTy) A' c', .bool (fieldP W t nm).isSome]) ∧ (((fieldP W t nm).map (·.f1)).getD zTy).f4.length ≤ c' ∧ Kd.C kTy w' A' (((fieldP W t nm).map (·.f1)).getD zTy).f4.length (((fieldP W t nm).map (·.f1)).getD zTy).f4 ∧ Below w.heap.size w w' := by
  have hb0 := bel_alloc (bel_alloc (bel_alloc (bel_alloc (Below.refl w.heap.size w) (.cells #[.slice a.AW W.length a.cW, .slice a.AI a.nI a.cI, .slice a.AN a.nN a.cN, .slice a.AB B.length a.cB, .slice a.AV a.nV a.cV] 27)) (.cells #[.int .i64 t.f0, .string t.f1, .string t.f2, .int .i64 t.f3, .slice A t.f4.length c] 29)) (.cells #[.string nm] 9)) (.cells #[.int .i64 0, .string ⟨#[]⟩, .string ⟨#[]⟩, .int .i64 0, .slice none 0 0] 29)
  have HC := Lib.hid (find_any a W B t A c _ (hW.later hb0) ok)
  have HB := Lib.hid hb0
  have HNM := Lib.hid (blk_alloc (show (((w.alloc (.cells #[.slice a.AW W.length a.cW, .slice a.AI a.nI a.cI, .slice a.AN a.nN a.cN, .slice a.AB B.length a.cB, .slice a.AV a.nV a.cV] 27)).alloc (.cells #[.int .i64 t.f0, .string t.f1, .string t.f2, .int .i64 t.f3, .slice A t.f4.length c] 29)).alloc (.cells #[.string nm] 9)).heap[w.heap.size + 1 + 1]? = some (.cells #[.string nm] 9 (0, 0)) by have h := blk_new ((w.alloc (.cells #[.slice a.AW W.length a.cW, .slice a.AI a.nI a.cI, .slice a.AN a.nN a.cN, .slice a.AB B.length a.cB, .slice a.AV a.nV a.cV] 27)).alloc (.cells #[.int .i64 t.f0, .string t.f1, .string t.f2, .int .i64 t.f3, .slice A t.f4.length c] 29)) (.cells #[.string nm] 9); simp only [World.size_alloc] at h; exact h) (.cells #[.int .i64 0, .string ⟨#[]⟩, .string ⟨#[]⟩, .int .i64 0, .slice none 0 0] 29))
  have HR := Lib.hid (show ((((w.alloc (.cells #[.slice a.AW W.length a.cW, .slice a.AI a.nI a.cI, .slice a.AN a.nN a.cN, .slice a.AB B.length a.cB, .slice a.AV a.nV a.cV] 27)).alloc (.cells #[.int .i64 t.f0, .string t.f1, .string t.f2, .int .i64 t.f3, .slice A t.f4.length c] 29)).alloc (.cells #[.string nm] 9)).alloc (.cells #[.int .i64 0, .string ⟨#[]⟩, .string ⟨#[]⟩, .int .i64 0, .slice none 0 0] 29)).heap[w.heap.size + 1 + 1 + 1]? = some (.cells #[.int .i64 0, .string ⟨#[]⟩, .string ⟨#[]⟩, .int .i64 0, .slice none 0 0] 29 (0, 0)) by have h := blk_new (((w.alloc (.cells #[.slice a.AW W.length a.cW, .slice a.AI a.nI a.cI, .slice a.AN a.nN a.cN, .slice a.AB B.length a.cB, .slice a.AV a.nV a.cV] 27)).alloc (.cells #[.int .i64 t.f0, .string t.f1, .string t.f2, .int .i64 t.f3, .slice A t.f4.length c] 29)).alloc (.cells #[.string nm] 9)) (.cells #[.int .i64 0, .string ⟨#[]⟩, .string ⟨#[]⟩, .int .i64 0, .slice none 0 0] 29); simp only [World.size_alloc] at h; exact h)
  unfold fieldP
  generalize (findP W t).getD zDcl = x at *
  generalize (findP W t).isSome = b at *
  clear hW ok hb0
  simp only [scV, tyV, dclV] at *
  cases h1 : x.f2.find? (fun f => decide (f.f0 = nm) && x.f1) with
  | none =>
    simp only [Option.map_none, Option.getD_none, Option.isSome_none, zTy, z29, List.length_nil]
    go_enter Try.func18, Try.ntmps18
    go_wp2_with (fail)
    refine HC.out.mono ?_
    rintro e w1 ⟨A1, c1, B1, d1, rfl, k1, k2, k3, k4, hb⟩
    replace HB := Lib.hid (bel_alloc (bel_trans HB.out hb) (.cells #[.string x.f0, .bool x.f1, .slice A1 x.f2.length c1, .slice B1 x.f3.length d1] 35))
    replace HNM := Lib.hid (blk_alloc (blk_later hb HNM.out) (.cells #[.string x.f0, .bool x.f1, .slice A1 x.f2.length c1, .slice B1 x.f3.length d1] 35))
    replace HR := Lib.hid (blk_alloc (blk_later hb HR.out) (.cells #[.string x.f0, .bool x.f1, .slice A1 x.f2.length c1, .slice B1 x.f3.length d1] 35))
    have HD := Lib.hid (blk_new w1 (.cells #[.string x.f0, .bool x.f1, .slice A1 x.f2.length c1, .slice B1 x.f3.length d1] 35))
    have HF := Lib.hid (Kd.F_alloc k2 (.cells #[.string x.f0, .bool x.f1, .slice A1 x.f2.length c1, .slice B1 x.f3.length d1] 35))
    have HLN := Lib.hid (show w.heap.size + 1 + 1 + 1 + 1 ≤ ((((w.alloc (.cells #[.slice a.AW W.length a.cW, .slice a.AI a.nI a.cI, .slice a.AN a.nN a.cN, .slice a.AB B.length a.cB, .slice a.AV a.nV a.cV] 27)).alloc (.cells #[.int .i64 t.f0, .string t.f1, .string t.f2, .int .i64 t.f3, .slice A t.f4.length c] 29)).alloc (.cells #[.string nm] 9)).alloc (.cells #[.int .i64 0, .string ⟨#[]⟩, .string ⟨#[]⟩, .int .i64 0, .slice none 0 0] 29)).heap.size from by simp only [World.size_alloc]; omega)
    have HK1 := Lib.hid k1
    have HC2 := Lib.hid (firstFld_none (fun f => decide (f.f0 = nm) && x.f1) x.f2 A1 c1 ⟨w.heap.size + 1 + 1, 0, none⟩ ⟨w1.heap.size, 0, none⟩ _ (Kd.F_now HF.out) HK1.out (fun f hf A5 c5 W' hb => field1_any (blk_later hb HNM.out) (blk_later hb HD.out) f.f0 f.f1.f0 f.f1.f1 f.f1.f2 f.f1.f3 A5 f.f1.f4.length c5) h1)
    have d2 := (blk_cell HD.out 2).trans rfl
    clear hb k1 k2 k3 k4 h1
    go_wp2_with (fail)
    refine HC2.out.mono ?_
    rintro e w2 ⟨rfl, hb⟩
    replace HB := Lib.hid (bel_alloc (bel_trans HB.out hb) (.cells #[.string ⟨#[]⟩, .int .i64 0, .string ⟨#[]⟩, .string ⟨#[]⟩, .int .i64 0, .slice none 0 0] 83))
    replace HR := Lib.hid (blk_alloc (blk_later hb HR.out) (.cells #[.string ⟨#[]⟩, .int .i64 0, .string ⟨#[]⟩, .string ⟨#[]⟩, .int .i64 0, .slice none 0 0] 83))
    have HX := Lib.hid (blk_new w2 (.cells #[.string ⟨#[]⟩, .int .i64 0, .string ⟨#[]⟩, .string ⟨#[]⟩, .int .i64 0, .slice none 0 0] 83))
    have z0 := (blk_cell HR.out 0).trans rfl
    have z1 := (blk_cell HR.out 1).trans rfl
    have z2 := (blk_cell HR.out 2).trans rfl
    have z3 := (blk_cell HR.out 3).trans rfl
    have z4 := (blk_cell HR.out 4).trans rfl
    have f0 := blk_free HR.out 0
    have f1 := blk_free HR.out 1
    have f2 := blk_free HR.out 2
    have f3 := blk_free HR.out 3
    have f4 := blk_free HR.out 4
    have y1 := (blk_cell HX.out 1).trans rfl
    have y2 := (blk_cell HX.out 2).trans rfl
    have y3 := (blk_cell HX.out 3).trans rfl
    have y4 := (blk_cell HX.out 4).trans rfl
    have y5 := (blk_cell HX.out 5).trans rfl
    clear hb
    go_wp2_with (fail)
    have hE := blk_set (blk_set (blk_set (blk_set (blk_set (HR.out) 0 (.int .i64 0)) 1 (.string ⟨#[]⟩)) 2 (.string ⟨#[]⟩)) 3 (.int .i64 0)) 4 (.slice none 0 0)
    have hlt := blk_lt HR.out
    refine cell_tmp_end rfl (hE.trans rfl) Try.underlying29 (sizeTy.trans rfl) rfl rfl rfl ⟨none, 0, rfl, Nat.le_refl _, ⟨rfl, by simp, fun h => by simp at h⟩, ?_⟩
    iterate 5 refine Below.setCell ?_ (by simp only; omega) _
    exact HB.out
  | some f =>
    simp only [Option.map_some, Option.getD_some, Option.isSome_some]
    go_enter Try.func18, Try.ntmps18
    go_wp2_with (fail)
    refine HC.out.mono ?_
    rintro e w1 ⟨A1, c1, B1, d1, rfl, k1, k2, k3, k4, hb⟩
    replace HB := Lib.hid (bel_alloc (bel_trans HB.out hb) (.cells #[.string x.f0, .bool x.f1, .slice A1 x.f2.length c1, .slice B1 x.f3.length d1] 35))
    replace HNM := Lib.hid (blk_alloc (blk_later hb HNM.out) (.cells #[.string x.f0, .bool x.f1, .slice A1 x.f2.length c1, .slice B1 x.f3.length d1] 35))
    replace HR := Lib.hid (blk_alloc (blk_later hb HR.out) (.cells #[.string x.f0, .bool x.f1, .slice A1 x.f2.length c1, .slice B1 x.f3.length d1] 35))
    have HD := Lib.hid (blk_new w1 (.cells #[.string x.f0, .bool x.f1, .slice A1 x.f2.length c1, .slice B1 x.f3.length d1] 35))
    have HF := Lib.hid (Kd.F_alloc k2 (.cells #[.string x.f0, .bool x.f1, .slice A1 x.f2.length c1, .slice B1 x.f3.length d1] 35))
    have HLN := Lib.hid (show w.heap.size + 1 + 1 + 1 + 1 ≤ ((((w.alloc (.cells #[.slice a.AW W.length a.cW, .slice a.AI a.nI a.cI, .slice a.AN a.nN a.cN, .slice a.AB B.length a.cB, .slice a.AV a.nV a.cV] 27)).alloc (.cells #[.int .i64 t.f0, .string t.f1, .string t.f2, .int .i64 t.f3, .slice A t.f4.length c] 29)).alloc (.cells #[.string nm] 9)).alloc (.cells #[.int .i64 0, .string ⟨#[]⟩, .string ⟨#[]⟩, .int .i64 0, .slice none 0 0] 29)).heap.size from by simp only [World.size_alloc]; omega)
    have HK1 := Lib.hid k1
    have HC2 := Lib.hid (firstFld_someF (fun f => decide (f.f0 = nm) && x.f1) x.f2 A1 c1 ⟨w.heap.size + 1 + 1, 0, none⟩ ⟨w1.heap.size, 0, none⟩ _ HF.out HK1.out (fun f hf A5 c5 W' hb => field1_any (blk_later hb HNM.out) (blk_later hb HD.out) f.f0 f.f1.f0 f.f1.f1 f.f1.f2 f.f1.f3 A5 f.f1.f4.length c5) f h1)
    have d2 := (blk_cell HD.out 2).trans rfl
    clear hb k1 k2 k3 k4 h1
    go_wp2_with (fail)
    refine HC2.out.mono ?_
    rintro e w2 ⟨A5, c5, rfl, g1, g2, hb⟩
    have HG1 := Lib.hid g1
    have HG2 := Lib.hid g2
    replace HB := Lib.hid (bel_alloc (bel_trans HB.out hb) (.cells #[.string f.f0, .int .i64 f.f1.f0, .string f.f1.f1, .string f.f1.f2, .int .i64 f.f1.f3, .slice A5 f.f1.f4.length c5] 83))
    replace HR := Lib.hid (blk_alloc (blk_later hb HR.out) (.cells #[.string f.f0, .int .i64 f.f1.f0, .string f.f1.f1, .string f.f1.f2, .int .i64 f.f1.f3, .slice A5 f.f1.f4.length c5] 83))
    have HX := Lib.hid (blk_new w2 (.cells #[.string f.f0, .int .i64 f.f1.f0, .string f.f1.f1, .string f.f1.f2, .int .i64 f.f1.f3, .slice A5 f.f1.f4.length c5] 83))
    have z0 := (blk_cell HR.out 0).trans rfl
    have z1 := (blk_cell HR.out 1).trans rfl
    have z2 := (blk_cell HR.out 2).trans rfl
    have z3 := (blk_cell HR.out 3).trans rfl
    have z4 := (blk_cell HR.out 4).trans rfl
    have f0 := blk_free HR.out 0
    have f1 := blk_free HR.out 1
    have f2 := blk_free HR.out 2
    have f3 := blk_free HR.out 3
    have f4 := blk_free HR.out 4
    have y1 := (blk_cell HX.out 1).trans rfl
    have y2 := (blk_cell HX.out 2).trans rfl
    have y3 := (blk_cell HX.out 3).trans rfl
    have y4 := (blk_cell HX.out 4).trans rfl
    have y5 := (blk_cell HX.out 5).trans rfl
    clear hb g1 g2
    go_wp2_with (fail)
    have hE := blk_set (blk_set (blk_set (blk_set (blk_set (HR.out) 0 (.int .i64 f.f1.f0)) 1 (.string f.f1.f1)) 2 (.string f.f1.f2)) 3 (.int .i64 f.f1.f3)) 4 (.slice A5 f.f1.f4.length c5)
    have hlt := blk_lt HR.out
    refine cell_tmp_end rfl (hE.trans rfl) Try.underlying29 (sizeTy.trans rfl) rfl rfl rfl ⟨A5, c5, rfl, HG1.out, ?_, ?_⟩
    · have hfar : ∀ b, b ≠ w.heap.size + 1 + 1 + 1 → (((((((w2.alloc (.cells #[.string f.f0, .int .i64 f.f1.f0, .string f.f1.f1, .string f.f1.f2, .int .i64 f.f1.f3, .slice A5 f.f1.f4.length c5] 83)).setCell ⟨w.heap.size + 1 + 1 + 1, 0, none⟩ (.int .i64 f.f1.f0)).setCell ⟨w.heap.size + 1 + 1 + 1, 1, none⟩ (.string f.f1.f1)).setCell ⟨w.heap.size + 1 + 1 + 1, 2, none⟩ (.string f.f1.f2)).setCell ⟨w.heap.size + 1 + 1 + 1, 3, none⟩ (.int .i64 f.f1.f3)).setCell ⟨w.heap.size + 1 + 1 + 1, 4, none⟩ (.slice A5 f.f1.f4.length c5))).heap[b]? = (w2.alloc (.cells #[.string f.f0, .int .i64 f.f1.f0, .string f.f1.f1, .string f.f1.f2, .int .i64 f.f1.f3, .slice A5 f.f1.f4.length c5] 83)).heap[b]? := by intro b hne; rw [blk_far _ _ _ _ _ hne, blk_far _ _ _ _ _ hne, blk_far _ _ _ _ _ hne, blk_far _ _ _ _ _ hne, blk_far _ _ _ _ _ hne]
      exact Kd.F_now (Kd.F_step (Kd.F_alloc HG2.out (.cells #[.string f.f0, .int .i64 f.f1.f0, .string f.f1.f1, .string f.f1.f2, .int .i64 f.f1.f3, .slice A5 f.f1.f4.length c5] 83)) (fun b hb _ => hfar b (by have := HLN.out; omega)))
    · iterate 5 refine Below.setCell ?_ (by simp only; omega) _
      exact HB.out
end Go.Proofs.Ytbhagjhhgmmcgaa
