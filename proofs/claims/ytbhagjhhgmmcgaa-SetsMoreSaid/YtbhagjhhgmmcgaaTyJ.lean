/- The first one of some that is as asked. -/
import Derived.Test.YtbhagjhhgmmcgaaTyF
import Derived.Test.YtbhagjhhgmmcgaaTyI
namespace Go.Proofs.Ytbhagjhhgmmcgaa
open Go.RowKit PRef Go.Proofs.YtbhagjhhgmmcgaaW.PrintWords
set_option linter.unusedVariables false

abbrev Ifc := S74
abbrev kIfc := k74
abbrev Fun := S58
abbrev kFun := k58
/-- Where the first one stands that is as asked. -/
def idxF {α : Type} (q : α → Bool) : Nat → List α → Int
  | _, [] => -1
  | i, x :: r => if q x = true then (i : Int) else idxF q (i + 1) r
theorem idxF_drop {α : Type} (q : α → Bool) (l : List α) (k : Nat) (x : α) (hx : l[k]? = some x) : idxF q k (l.drop k) = if q x = true then (k : Int) else idxF q (k + 1) (l.drop (k + 1)) := by
  obtain ⟨h1, rfl⟩ := List.getElem?_eq_some_iff.1 hx
  rw [List.drop_eq_getElem_cons h1, idxF]
theorem idxF_none {α : Type} (q : α → Bool) : ∀ (l : List α) (i : Nat), l.find? q = none → idxF q i l = -1
  | [], _, _ => rfl
  | x :: r, i, h => by
    rw [List.find?_cons] at h
    cases hq : q x with
    | true => rw [hq] at h; cases h
    | false =>
      rw [hq] at h
      rw [idxF, if_neg (by rw [hq]; decide)]
      exact idxF_none q r (i + 1) h
theorem idxF_some {α : Type} (q : α → Bool) : ∀ (l : List α) (i : Nat) (x : α), l.find? q = some x → ∃ j : Nat, idxF q i l = ((i + j : Nat) : Int) ∧ l[j]? = some x
  | [], _, _, h => by cases h
  | y :: r, i, x, h => by
    rw [List.find?_cons] at h
    cases hq : q y with
    | true =>
      rw [hq] at h
      injection h with h
      subst h
      exact ⟨0, by rw [idxF, if_pos hq]; rfl, rfl⟩
    | false =>
      rw [hq] at h
      obtain ⟨j, h1, h2⟩ := idxF_some q r (i + 1) x h
      refine ⟨j + 1, by rw [idxF, if_neg (by rw [hq]; decide), h1]; congr 1; omega, by simpa using h2⟩
theorem cell_tmp_end {fn : Func} {p u : Tmp} {ty : TypeId} (hr : fn.results = #[.cell p ty, .tmp u]) {R : Ending → World → Prop} {a : Act} {W : World} {h : Nat} {cs : Array Value} {x : Value} {fs : Array Field} (hR : W.heap[h]? = some (.cells cs ty (0, 0)))
    (hu : Try.prog.underlying ty = some (.struct fs)) (hsz : (Try.prog.info? ty).map (·.size) = some cs.size) (hp : a.tmps.getD p undef = .pointer (some ⟨h, 0, none⟩)) (hx : a.tmps.getD u undef = x) (hd : a.defers = []) (hQ : R (.returned (.tuple #[.agg cs, x])) W) :
    bodyPost Try.prog fn R .ret a W := by
  refine bodyPost_ret ((results_cell_tmp (p := p) (u := u) (ty := ty) hr a.tmps Try.prog _).trans ?_) hd hQ
  rw [hp, hx]
  have h3 := run_loadVar_row (P := Try.prog) _ h ty ty cs (0, 0) _ hR hu rfl hsz
  simp only [asAddr, Sem.run_pure, Result.andThen_ok, h3]

theorem sizeIfc' : (Try.prog.info? 74).map (·.size) = some 3 := by kernel_rfl
set_option maxRecDepth 100000 in
set_option maxHeartbeats 2000000 in
theorem indexIfc_any (q : Ifc → Bool) (l : List Ifc) (A : Option Addr) (c : Nat) (p : Addr) (w : World) (hC : Kd.C kIfc w A l.length l) (hc : l.length ≤ c)
    (hF : ∀ x ∈ l, ∀ (A1 : Option Addr) (c1 : Nat) (A2 : Option Addr) (c2 : Nat) (W : World), Below w.heap.size w W → Calls Try.prog 50 #[.agg #[.string x.f0, .slice A1 x.f1.length c1, .slice A2 x.f2.length c2], .pointer (some p)] W fun e W' => e = .returned (.bool (q x)) ∧ Below W.heap.size W W') :
    Calls Try.prog 71 #[.slice A l.length c, .func (.func 50) #[] #[.pointer (some p)]] w fun e w' => e = .returned (.int .i64 (idxF q 0 l)) ∧ Below w.heap.size w w' := by
  have HF := Lib.hid hF
  have hlm : l.length ≤ 9223372036854775807 := hC.2.1
  have HC := Lib.hid hC
  have HBW := Lib.hid (Below.refl w.heap.size w)
  clear hF hC
  go_enter Try.func71, Try.ntmps71
  go_wp2_with (fail)
  go_loopg [8] (l.length + 1) (fun kq v8 W => ∃ k : Nat, v8 = .int .i64 k ∧ Hid (kq + k = l.length + 1 ∧ k ≤ l.length ∧ idxF q 0 l = idxF q k (l.drop k)) ∧ Hid (Below w.heap.size w W))
  case atStart => exact ⟨0, rfl, Lib.hid ⟨rfl, Nat.zero_le _, rfl⟩, HBW⟩
  case round =>
    clear HBW
    obtain ⟨k, rfl, HK, HBW⟩ := hrel
    by_cases hlt : k < l.length
    · obtain ⟨x, hx⟩ : ∃ x, l[k]? = some x := ⟨_, List.getElem?_eq_getElem hlt⟩
      obtain ⟨ad, A1, c1, A2, c2, hA1, x0, x1, x2, g0, g1, g2, g3⟩ := at_T74 (Kd.C_below HC.out HBW.out) (k : Int) (by omega) (by omega)
      subst hA1
      rw [show rd_T74 l (k : Int) = x from by unfold rd_T74; rw [Int.toNat_natCast, List.getD_eq_getElem?_getD, hx]; rfl] at x0 x1 x2 g0 g1 g2 g3
      rw [Int.toNat_natCast] at x0 x1 x2
      have HCALL := Lib.hid (HF.out x (List.mem_of_getElem? hx) A1 c1 A2 c2 wr HBW.out)
      have HD := Lib.hid (HK.out.2.2.trans (idxF_drop q l k x hx))
      have i0 : 0 ≤ (k : Int) := by omega
      have i1 : (k : Int) < l.length := by omega
      have HLT := Lib.hid hlt
      clear hx g0 g1 g2 g3
      cases hq : q x with
      | true =>
        rw [hq] at HCALL HD
        go_wp2_with (fail)
        refine HCALL.out.mono ?_
        rintro e w5 ⟨rfl, hb⟩
        replace HBW := Lib.hid (bel_trans HBW.out hb)
        clear hb hq
        go_wp2_with (fail)
        go_ret
        exact ⟨by rw [HD.out]; rfl, HBW.out⟩
      | false =>
        rw [hq] at HCALL HD
        go_wp2_with (fail)
        refine HCALL.out.mono ?_
        rintro e w5 ⟨rfl, hb⟩
        replace HBW := Lib.hid (bel_trans HBW.out hb)
        clear hb hq
        go_wp2_with (fail)
        go_roundg (gk - 1)
        case measure => have := HK.out.1; have := HK.out.2.1; omega
        case rel => exact ⟨k + 1, by go_num, Lib.hid ⟨by have := HK.out.1; have := HLT.out; omega, HLT.out, HD.out⟩, HBW⟩
    · obtain rfl : k = l.length := by have := HK.out.2.1; omega
      have HE := Lib.hid (show idxF q 0 l = -1 from by have := HK.out.2.2; rw [List.drop_length] at this; exact this)
      go_wp2_with (fail)
      go_ret
      exact ⟨by rw [HE.out]; rfl, HBW.out⟩
set_option maxRecDepth 100000 in
set_option maxHeartbeats 2000000 in
theorem firstIfc_none (q : Ifc → Bool) (l : List Ifc) (A : Option Addr) (c : Nat) (p : Addr) (w : World) (hC : Kd.C kIfc w A l.length l) (hc : l.length ≤ c)
    (hF : ∀ x ∈ l, ∀ (A1 : Option Addr) (c1 : Nat) (A2 : Option Addr) (c2 : Nat) (W : World), Below w.heap.size w W → Calls Try.prog 50 #[.agg #[.string x.f0, .slice A1 x.f1.length c1, .slice A2 x.f2.length c2], .pointer (some p)] W fun e W' => e = .returned (.bool (q x)) ∧ Below W.heap.size W W') (hn : l.find? q = none) :
    Calls Try.prog 49 #[.slice A l.length c, .func (.func 50) #[] #[.pointer (some p)]] w fun e w' => e = .returned (.tuple #[.agg #[.string ⟨#[]⟩, .slice none 0 0, .slice none 0 0], .bool false]) ∧ Below w.heap.size w w' := by
  have hb0 := bel_alloc (Below.refl w.heap.size w) (.cells #[.string ⟨#[]⟩, .slice none 0 0, .slice none 0 0] 74)
  have HI := Lib.hid (indexIfc_any q l A c p _ (Kd.C_below hC hb0) hc (fun x hx A1 c1 A2 c2 W hb => hF x hx A1 c1 A2 c2 W (hb0.trans (hb.mono (by simp)))))
  rw [idxF_none q l 0 hn] at HI
  have HB0 := Lib.hid hb0
  have HR0 := Lib.hid (blk_new w (.cells #[.string ⟨#[]⟩, .slice none 0 0, .slice none 0 0] 74))
  clear hF hC hn hb0
  go_enter Try.func49, Try.ntmps49
  go_wp2_with (fail)
  refine HI.out.mono ?_
  rintro e w1 ⟨rfl, hb⟩
  have HBW := Lib.hid (bel_trans HB0.out hb)
  have HR := Lib.hid (blk_later hb HR0.out)
  clear hb
  have z0 := (blk_cell HR.out 0).trans rfl
  have z1 := (blk_cell HR.out 1).trans rfl
  have z2 := (blk_cell HR.out 2).trans rfl
  have f0 := blk_free HR.out 0
  have f1 := blk_free HR.out 1
  have f2 := blk_free HR.out 2
  go_wp2_with (fail)
  have hE := blk_set (blk_set (blk_set (HR.out) 0 (.string ⟨#[]⟩)) 1 (.slice none 0 0)) 2 (.slice none 0 0)
  refine cell_tmp_end rfl (hE.trans rfl) Try.underlying74 sizeIfc' rfl rfl rfl ⟨rfl, ?_⟩
  exact Below.setCell (Below.setCell (Below.setCell (HBW.out) (Nat.le_refl _) _) (Nat.le_refl _) _) (Nat.le_refl _) _
set_option maxRecDepth 100000 in
set_option maxHeartbeats 2000000 in
theorem firstIfc_some (q : Ifc → Bool) (l : List Ifc) (A : Option Addr) (c : Nat) (p : Addr) (w : World) (hC : Kd.C kIfc w A l.length l) (hc : l.length ≤ c)
    (hF : ∀ x ∈ l, ∀ (A1 : Option Addr) (c1 : Nat) (A2 : Option Addr) (c2 : Nat) (W : World), Below w.heap.size w W → Calls Try.prog 50 #[.agg #[.string x.f0, .slice A1 x.f1.length c1, .slice A2 x.f2.length c2], .pointer (some p)] W fun e W' => e = .returned (.bool (q x)) ∧ Below W.heap.size W W') (x : Ifc) (hn : l.find? q = some x) :
    Calls Try.prog 49 #[.slice A l.length c, .func (.func 50) #[] #[.pointer (some p)]] w fun e W => ∃ A1 c1 A2 c2, e = .returned (.tuple #[.agg #[.string x.f0, .slice A1 x.f1.length c1, .slice A2 x.f2.length c2], .bool true]) ∧ x.f1.length ≤ c1 ∧ Kd.C kDcl W A1 x.f1.length x.f1 ∧ x.f2.length ≤ c2 ∧ Kd.C kFun W A2 x.f2.length x.f2 ∧ Below w.heap.size w W := by
  have hb0 := bel_alloc (Below.refl w.heap.size w) (.cells #[.string ⟨#[]⟩, .slice none 0 0, .slice none 0 0] 74)
  have HI := Lib.hid (indexIfc_any q l A c p _ (Kd.C_below hC hb0) hc (fun x hx A1 c1 A2 c2 W hb => hF x hx A1 c1 A2 c2 W (hb0.trans (hb.mono (by simp)))))
  obtain ⟨k, hk, hx⟩ := idxF_some q l 0 x hn
  rw [hk, Nat.zero_add] at HI
  have hlt : k < l.length := (List.getElem?_eq_some_iff.1 hx).1
  have HB0 := Lib.hid hb0
  have HR0 := Lib.hid (blk_new w (.cells #[.string ⟨#[]⟩, .slice none 0 0, .slice none 0 0] 74))
  obtain ⟨ad, A1, c1, A2, c2, hA1, x0, x1, x2, g0, g1, g2, g3⟩ := at_T74 hC (k : Int) (by omega) (by omega)
  subst hA1
  rw [show rd_T74 l (k : Int) = x from by unfold rd_T74; rw [Int.toNat_natCast, List.getD_eq_getElem?_getD, hx]; rfl] at x0 x1 x2 g0 g1 g2 g3
  rw [Int.toNat_natCast] at x0 x1 x2
  have HXS := Lib.hid (And.intro x0 (And.intro x1 x2))
  have HG := Lib.hid (And.intro g0 (And.intro g1 (And.intro g2 g3)))
  have HLM := Lib.hid hC.2.1
  clear hF hC hn hb0 hk hx x0 x1 x2 g0 g1 g2 g3
  go_enter Try.func49, Try.ntmps49
  go_wp2_with (fail)
  refine HI.out.mono ?_
  rintro e w1 ⟨rfl, hb⟩
  have HBW := Lib.hid (bel_trans HB0.out hb)
  have HR := Lib.hid (blk_later hb HR0.out)
  clear hb
  obtain ⟨y0, y1, y2⟩ := HXS.out
  have x0 := cell_later HBW.out y0
  have x1 := cell_later HBW.out y1
  have x2 := cell_later HBW.out y2
  have z0 := (blk_cell HR.out 0).trans rfl
  have z1 := (blk_cell HR.out 1).trans rfl
  have z2 := (blk_cell HR.out 2).trans rfl
  have f0 := blk_free HR.out 0
  have f1 := blk_free HR.out 1
  have f2 := blk_free HR.out 2
  have i0 : 0 ≤ (k : Int) := by omega
  have i1 : (k : Int) < l.length := by omega
  have i2 : ¬ (k : Int) < 0 := by omega
  clear y0 y1 y2
  go_wp2_with (fail)
  have hE := blk_set (blk_set (blk_set (HR.out) 0 (.string x.f0)) 1 (.slice A1 x.f1.length c1)) 2 (.slice A2 x.f2.length c2)
  have hfin := Below.setCell (Below.setCell (Below.setCell (HBW.out) (p := ⟨w.heap.size, 0, none⟩) (Nat.le_refl _) (.string x.f0)) (p := ⟨w.heap.size, 1, none⟩) (Nat.le_refl _) (.slice A1 x.f1.length c1)) (p := ⟨w.heap.size, 2, none⟩) (Nat.le_refl _) (.slice A2 x.f2.length c2)
  refine cell_tmp_end rfl (hE.trans rfl) Try.underlying74 sizeIfc' rfl rfl rfl ⟨A1, c1, A2, c2, rfl, HG.out.1, ?_, HG.out.2.2.1, ?_, hfin⟩
  · exact Kd.C_below (HG.out.2.1) hfin
  · exact Kd.C_below (HG.out.2.2.2) hfin
theorem sizeDcl' : (Try.prog.info? 35).map (·.size) = some 4 := by kernel_rfl
set_option maxRecDepth 100000 in
set_option maxHeartbeats 2000000 in
theorem indexDcl_any (q : Dcl → Bool) (l : List Dcl) (A : Option Addr) (c : Nat) (p : Addr) (w : World) (hC : Kd.C kDcl w A l.length l) (hc : l.length ≤ c)
    (hF : ∀ x ∈ l, ∀ (A2 : Option Addr) (c2 : Nat) (A3 : Option Addr) (c3 : Nat) (W : World), Below w.heap.size w W → Calls Try.prog 52 #[.agg #[.string x.f0, .bool x.f1, .slice A2 x.f2.length c2, .slice A3 x.f3.length c3], .pointer (some p)] W fun e W' => e = .returned (.bool (q x)) ∧ Below W.heap.size W W') :
    Calls Try.prog 72 #[.slice A l.length c, .func (.func 52) #[] #[.pointer (some p)]] w fun e w' => e = .returned (.int .i64 (idxF q 0 l)) ∧ Below w.heap.size w w' := by
  have HF := Lib.hid hF
  have hlm : l.length ≤ 9223372036854775807 := hC.2.1
  have HC := Lib.hid hC
  have HBW := Lib.hid (Below.refl w.heap.size w)
  clear hF hC
  go_enter Try.func72, Try.ntmps72
  go_wp2_with (fail)
  go_loopg [8] (l.length + 1) (fun kq v8 W => ∃ k : Nat, v8 = .int .i64 k ∧ Hid (kq + k = l.length + 1 ∧ k ≤ l.length ∧ idxF q 0 l = idxF q k (l.drop k)) ∧ Hid (Below w.heap.size w W))
  case atStart => exact ⟨0, rfl, Lib.hid ⟨rfl, Nat.zero_le _, rfl⟩, HBW⟩
  case round =>
    clear HBW
    obtain ⟨k, rfl, HK, HBW⟩ := hrel
    by_cases hlt : k < l.length
    · obtain ⟨x, hx⟩ : ∃ x, l[k]? = some x := ⟨_, List.getElem?_eq_getElem hlt⟩
      obtain ⟨ad, A2, c2, A3, c3, hA1, x0, x1, x2, x3, g0, g1, g2, g3⟩ := at_T35 (Kd.C_below HC.out HBW.out) (k : Int) (by omega) (by omega)
      subst hA1
      rw [show rd_T35 l (k : Int) = x from by unfold rd_T35; rw [Int.toNat_natCast, List.getD_eq_getElem?_getD, hx]; rfl] at x0 x1 x2 x3 g0 g1 g2 g3
      rw [Int.toNat_natCast] at x0 x1 x2 x3
      have HCALL := Lib.hid (HF.out x (List.mem_of_getElem? hx) A2 c2 A3 c3 wr HBW.out)
      have HD := Lib.hid (HK.out.2.2.trans (idxF_drop q l k x hx))
      have i0 : 0 ≤ (k : Int) := by omega
      have i1 : (k : Int) < l.length := by omega
      have HLT := Lib.hid hlt
      clear hx g0 g1 g2 g3
      cases hq : q x with
      | true =>
        rw [hq] at HCALL HD
        go_wp2_with (fail)
        refine HCALL.out.mono ?_
        rintro e w5 ⟨rfl, hb⟩
        replace HBW := Lib.hid (bel_trans HBW.out hb)
        clear hb hq
        go_wp2_with (fail)
        go_ret
        exact ⟨by rw [HD.out]; rfl, HBW.out⟩
      | false =>
        rw [hq] at HCALL HD
        go_wp2_with (fail)
        refine HCALL.out.mono ?_
        rintro e w5 ⟨rfl, hb⟩
        replace HBW := Lib.hid (bel_trans HBW.out hb)
        clear hb hq
        go_wp2_with (fail)
        go_roundg (gk - 1)
        case measure => have := HK.out.1; have := HK.out.2.1; omega
        case rel => exact ⟨k + 1, by go_num, Lib.hid ⟨by have := HK.out.1; have := HLT.out; omega, HLT.out, HD.out⟩, HBW⟩
    · obtain rfl : k = l.length := by have := HK.out.2.1; omega
      have HE := Lib.hid (show idxF q 0 l = -1 from by have := HK.out.2.2; rw [List.drop_length] at this; exact this)
      go_wp2_with (fail)
      go_ret
      exact ⟨by rw [HE.out]; rfl, HBW.out⟩
set_option maxRecDepth 100000 in
set_option maxHeartbeats 2000000 in
theorem firstDcl_none (q : Dcl → Bool) (l : List Dcl) (A : Option Addr) (c : Nat) (p : Addr) (w : World) (hC : Kd.C kDcl w A l.length l) (hc : l.length ≤ c)
    (hF : ∀ x ∈ l, ∀ (A2 : Option Addr) (c2 : Nat) (A3 : Option Addr) (c3 : Nat) (W : World), Below w.heap.size w W → Calls Try.prog 52 #[.agg #[.string x.f0, .bool x.f1, .slice A2 x.f2.length c2, .slice A3 x.f3.length c3], .pointer (some p)] W fun e W' => e = .returned (.bool (q x)) ∧ Below W.heap.size W W') (hn : l.find? q = none) :
    Calls Try.prog 51 #[.slice A l.length c, .func (.func 52) #[] #[.pointer (some p)]] w fun e w' => e = .returned (.tuple #[.agg #[.string ⟨#[]⟩, .bool false, .slice none 0 0, .slice none 0 0], .bool false]) ∧ Below w.heap.size w w' := by
  have hb0 := bel_alloc (Below.refl w.heap.size w) (.cells #[.string ⟨#[]⟩, .bool false, .slice none 0 0, .slice none 0 0] 35)
  have HI := Lib.hid (indexDcl_any q l A c p _ (Kd.C_below hC hb0) hc (fun x hx A2 c2 A3 c3 W hb => hF x hx A2 c2 A3 c3 W (hb0.trans (hb.mono (by simp)))))
  rw [idxF_none q l 0 hn] at HI
  have HB0 := Lib.hid hb0
  have HR0 := Lib.hid (blk_new w (.cells #[.string ⟨#[]⟩, .bool false, .slice none 0 0, .slice none 0 0] 35))
  clear hF hC hn hb0
  go_enter Try.func51, Try.ntmps51
  go_wp2_with (fail)
  refine HI.out.mono ?_
  rintro e w1 ⟨rfl, hb⟩
  have HBW := Lib.hid (bel_trans HB0.out hb)
  have HR := Lib.hid (blk_later hb HR0.out)
  clear hb
  have z0 := (blk_cell HR.out 0).trans rfl
  have z1 := (blk_cell HR.out 1).trans rfl
  have z2 := (blk_cell HR.out 2).trans rfl
  have z3 := (blk_cell HR.out 3).trans rfl
  have f0 := blk_free HR.out 0
  have f1 := blk_free HR.out 1
  have f2 := blk_free HR.out 2
  have f3 := blk_free HR.out 3
  go_wp2_with (fail)
  have hE := blk_set (blk_set (blk_set (blk_set (HR.out) 0 (.string ⟨#[]⟩)) 1 (.bool false)) 2 (.slice none 0 0)) 3 (.slice none 0 0)
  refine cell_tmp_end rfl (hE.trans rfl) Try.underlying35 sizeDcl' rfl rfl rfl ⟨rfl, ?_⟩
  exact Below.setCell (Below.setCell (Below.setCell (Below.setCell (HBW.out) (Nat.le_refl _) _) (Nat.le_refl _) _) (Nat.le_refl _) _) (Nat.le_refl _) _
set_option maxRecDepth 100000 in
set_option maxHeartbeats 2000000 in
theorem firstDcl_some (q : Dcl → Bool) (l : List Dcl) (A : Option Addr) (c : Nat) (p : Addr) (w : World) (hC : Kd.C kDcl w A l.length l) (hc : l.length ≤ c)
    (hF : ∀ x ∈ l, ∀ (A2 : Option Addr) (c2 : Nat) (A3 : Option Addr) (c3 : Nat) (W : World), Below w.heap.size w W → Calls Try.prog 52 #[.agg #[.string x.f0, .bool x.f1, .slice A2 x.f2.length c2, .slice A3 x.f3.length c3], .pointer (some p)] W fun e W' => e = .returned (.bool (q x)) ∧ Below W.heap.size W W') (x : Dcl) (hn : l.find? q = some x) :
    Calls Try.prog 51 #[.slice A l.length c, .func (.func 52) #[] #[.pointer (some p)]] w fun e W => ∃ A2 c2 A3 c3, e = .returned (.tuple #[.agg #[.string x.f0, .bool x.f1, .slice A2 x.f2.length c2, .slice A3 x.f3.length c3], .bool true]) ∧ x.f2.length ≤ c2 ∧ Kd.C kFld W A2 x.f2.length x.f2 ∧ x.f3.length ≤ c3 ∧ Kd.C kMth W A3 x.f3.length x.f3 ∧ Below w.heap.size w W := by
  have hb0 := bel_alloc (Below.refl w.heap.size w) (.cells #[.string ⟨#[]⟩, .bool false, .slice none 0 0, .slice none 0 0] 35)
  have HI := Lib.hid (indexDcl_any q l A c p _ (Kd.C_below hC hb0) hc (fun x hx A2 c2 A3 c3 W hb => hF x hx A2 c2 A3 c3 W (hb0.trans (hb.mono (by simp)))))
  obtain ⟨k, hk, hx⟩ := idxF_some q l 0 x hn
  rw [hk, Nat.zero_add] at HI
  have hlt : k < l.length := (List.getElem?_eq_some_iff.1 hx).1
  have HB0 := Lib.hid hb0
  have HR0 := Lib.hid (blk_new w (.cells #[.string ⟨#[]⟩, .bool false, .slice none 0 0, .slice none 0 0] 35))
  obtain ⟨ad, A2, c2, A3, c3, hA1, x0, x1, x2, x3, g0, g1, g2, g3⟩ := at_T35 hC (k : Int) (by omega) (by omega)
  subst hA1
  rw [show rd_T35 l (k : Int) = x from by unfold rd_T35; rw [Int.toNat_natCast, List.getD_eq_getElem?_getD, hx]; rfl] at x0 x1 x2 x3 g0 g1 g2 g3
  rw [Int.toNat_natCast] at x0 x1 x2 x3
  have HXS := Lib.hid (And.intro x0 (And.intro x1 (And.intro x2 x3)))
  have HG := Lib.hid (And.intro g0 (And.intro g1 (And.intro g2 g3)))
  have HLM := Lib.hid hC.2.1
  clear hF hC hn hb0 hk hx x0 x1 x2 x3 g0 g1 g2 g3
  go_enter Try.func51, Try.ntmps51
  go_wp2_with (fail)
  refine HI.out.mono ?_
  rintro e w1 ⟨rfl, hb⟩
  have HBW := Lib.hid (bel_trans HB0.out hb)
  have HR := Lib.hid (blk_later hb HR0.out)
  clear hb
  obtain ⟨y0, y1, y2, y3⟩ := HXS.out
  have x0 := cell_later HBW.out y0
  have x1 := cell_later HBW.out y1
  have x2 := cell_later HBW.out y2
  have x3 := cell_later HBW.out y3
  have z0 := (blk_cell HR.out 0).trans rfl
  have z1 := (blk_cell HR.out 1).trans rfl
  have z2 := (blk_cell HR.out 2).trans rfl
  have z3 := (blk_cell HR.out 3).trans rfl
  have f0 := blk_free HR.out 0
  have f1 := blk_free HR.out 1
  have f2 := blk_free HR.out 2
  have f3 := blk_free HR.out 3
  have i0 : 0 ≤ (k : Int) := by omega
  have i1 : (k : Int) < l.length := by omega
  have i2 : ¬ (k : Int) < 0 := by omega
  clear y0 y1 y2 y3
  go_wp2_with (fail)
  have hE := blk_set (blk_set (blk_set (blk_set (HR.out) 0 (.string x.f0)) 1 (.bool x.f1)) 2 (.slice A2 x.f2.length c2)) 3 (.slice A3 x.f3.length c3)
  have hfin := Below.setCell (Below.setCell (Below.setCell (Below.setCell (HBW.out) (p := ⟨w.heap.size, 0, none⟩) (Nat.le_refl _) (.string x.f0)) (p := ⟨w.heap.size, 1, none⟩) (Nat.le_refl _) (.bool x.f1)) (p := ⟨w.heap.size, 2, none⟩) (Nat.le_refl _) (.slice A2 x.f2.length c2)) (p := ⟨w.heap.size, 3, none⟩) (Nat.le_refl _) (.slice A3 x.f3.length c3)
  refine cell_tmp_end rfl (hE.trans rfl) Try.underlying35 sizeDcl' rfl rfl rfl ⟨A2, c2, A3, c3, rfl, HG.out.1, ?_, HG.out.2.2.1, ?_, hfin⟩
  · exact Kd.C_below (HG.out.2.1) hfin
  · exact Kd.C_below (HG.out.2.2.2) hfin
theorem sizeFld' : (Try.prog.info? 83).map (·.size) = some 6 := by kernel_rfl
set_option maxRecDepth 100000 in
set_option maxHeartbeats 2000000 in
theorem indexFld_any (q : Fld → Bool) (l : List Fld) (A : Option Addr) (c : Nat) (p p' : Addr) (w : World) (hC : Kd.C kFld w A l.length l) (hc : l.length ≤ c)
    (hF : ∀ x ∈ l, ∀ (A5 : Option Addr) (c5 : Nat) (W : World), Below w.heap.size w W → Calls Try.prog 56 #[.agg #[.string x.f0, .int .i64 x.f1.f0, .string x.f1.f1, .string x.f1.f2, .int .i64 x.f1.f3, .slice A5 x.f1.f4.length c5], .pointer (some p), .pointer (some p')] W fun e W' => e = .returned (.bool (q x)) ∧ Below W.heap.size W W') :
    Calls Try.prog 76 #[.slice A l.length c, .func (.func 56) #[] #[.pointer (some p), .pointer (some p')]] w fun e w' => e = .returned (.int .i64 (idxF q 0 l)) ∧ Below w.heap.size w w' := by
  have HF := Lib.hid hF
  have hlm : l.length ≤ 9223372036854775807 := hC.2.1
  have HC := Lib.hid hC
  have HBW := Lib.hid (Below.refl w.heap.size w)
  clear hF hC
  go_enter Try.func76, Try.ntmps76
  go_wp2_with (fail)
  go_loopg [8] (l.length + 1) (fun kq v8 W => ∃ k : Nat, v8 = .int .i64 k ∧ Hid (kq + k = l.length + 1 ∧ k ≤ l.length ∧ idxF q 0 l = idxF q k (l.drop k)) ∧ Hid (Below w.heap.size w W))
  case atStart => exact ⟨0, rfl, Lib.hid ⟨rfl, Nat.zero_le _, rfl⟩, HBW⟩
  case round =>
    clear HBW
    obtain ⟨k, rfl, HK, HBW⟩ := hrel
    by_cases hlt : k < l.length
    · obtain ⟨x, hx⟩ : ∃ x, l[k]? = some x := ⟨_, List.getElem?_eq_getElem hlt⟩
      obtain ⟨ad, A5, c5, hA1, x0, x1, x2, x3, x4, x5, g0, g1⟩ := at_T83 (Kd.C_below HC.out HBW.out) (k : Int) (by omega) (by omega)
      subst hA1
      rw [show rd_T83 l (k : Int) = x from by unfold rd_T83; rw [Int.toNat_natCast, List.getD_eq_getElem?_getD, hx]; rfl] at x0 x1 x2 x3 x4 x5 g0 g1
      rw [Int.toNat_natCast] at x0 x1 x2 x3 x4 x5
      have HCALL := Lib.hid (HF.out x (List.mem_of_getElem? hx) A5 c5 wr HBW.out)
      have HD := Lib.hid (HK.out.2.2.trans (idxF_drop q l k x hx))
      have i0 : 0 ≤ (k : Int) := by omega
      have i1 : (k : Int) < l.length := by omega
      have HLT := Lib.hid hlt
      clear hx g0 g1
      cases hq : q x with
      | true =>
        rw [hq] at HCALL HD
        go_wp2_with (fail)
        refine HCALL.out.mono ?_
        rintro e w5 ⟨rfl, hb⟩
        replace HBW := Lib.hid (bel_trans HBW.out hb)
        clear hb hq
        go_wp2_with (fail)
        go_ret
        exact ⟨by rw [HD.out]; rfl, HBW.out⟩
      | false =>
        rw [hq] at HCALL HD
        go_wp2_with (fail)
        refine HCALL.out.mono ?_
        rintro e w5 ⟨rfl, hb⟩
        replace HBW := Lib.hid (bel_trans HBW.out hb)
        clear hb hq
        go_wp2_with (fail)
        go_roundg (gk - 1)
        case measure => have := HK.out.1; have := HK.out.2.1; omega
        case rel => exact ⟨k + 1, by go_num, Lib.hid ⟨by have := HK.out.1; have := HLT.out; omega, HLT.out, HD.out⟩, HBW⟩
    · obtain rfl : k = l.length := by have := HK.out.2.1; omega
      have HE := Lib.hid (show idxF q 0 l = -1 from by have := HK.out.2.2; rw [List.drop_length] at this; exact this)
      go_wp2_with (fail)
      go_ret
      exact ⟨by rw [HE.out]; rfl, HBW.out⟩
set_option maxRecDepth 100000 in
set_option maxHeartbeats 2000000 in
theorem firstFld_none (q : Fld → Bool) (l : List Fld) (A : Option Addr) (c : Nat) (p p' : Addr) (w : World) (hC : Kd.C kFld w A l.length l) (hc : l.length ≤ c)
    (hF : ∀ x ∈ l, ∀ (A5 : Option Addr) (c5 : Nat) (W : World), Below w.heap.size w W → Calls Try.prog 56 #[.agg #[.string x.f0, .int .i64 x.f1.f0, .string x.f1.f1, .string x.f1.f2, .int .i64 x.f1.f3, .slice A5 x.f1.f4.length c5], .pointer (some p), .pointer (some p')] W fun e W' => e = .returned (.bool (q x)) ∧ Below W.heap.size W W') (hn : l.find? q = none) :
    Calls Try.prog 55 #[.slice A l.length c, .func (.func 56) #[] #[.pointer (some p), .pointer (some p')]] w fun e w' => e = .returned (.tuple #[.agg #[.string ⟨#[]⟩, .int .i64 0, .string ⟨#[]⟩, .string ⟨#[]⟩, .int .i64 0, .slice none 0 0], .bool false]) ∧ Below w.heap.size w w' := by
  have hb0 := bel_alloc (Below.refl w.heap.size w) (.cells #[.string ⟨#[]⟩, .int .i64 0, .string ⟨#[]⟩, .string ⟨#[]⟩, .int .i64 0, .slice none 0 0] 83)
  have HI := Lib.hid (indexFld_any q l A c p p' _ (Kd.C_below hC hb0) hc (fun x hx A5 c5 W hb => hF x hx A5 c5 W (hb0.trans (hb.mono (by simp)))))
  rw [idxF_none q l 0 hn] at HI
  have HB0 := Lib.hid hb0
  have HR0 := Lib.hid (blk_new w (.cells #[.string ⟨#[]⟩, .int .i64 0, .string ⟨#[]⟩, .string ⟨#[]⟩, .int .i64 0, .slice none 0 0] 83))
  clear hF hC hn hb0
  go_enter Try.func55, Try.ntmps55
  go_wp2_with (fail)
  refine HI.out.mono ?_
  rintro e w1 ⟨rfl, hb⟩
  have HBW := Lib.hid (bel_trans HB0.out hb)
  have HR := Lib.hid (blk_later hb HR0.out)
  clear hb
  have z0 := (blk_cell HR.out 0).trans rfl
  have z1 := (blk_cell HR.out 1).trans rfl
  have z2 := (blk_cell HR.out 2).trans rfl
  have z3 := (blk_cell HR.out 3).trans rfl
  have z4 := (blk_cell HR.out 4).trans rfl
  have z5 := (blk_cell HR.out 5).trans rfl
  have f0 := blk_free HR.out 0
  have f1 := blk_free HR.out 1
  have f2 := blk_free HR.out 2
  have f3 := blk_free HR.out 3
  have f4 := blk_free HR.out 4
  have f5 := blk_free HR.out 5
  go_wp2_with (fail)
  have hE := blk_set (blk_set (blk_set (blk_set (blk_set (blk_set (HR.out) 0 (.string ⟨#[]⟩)) 1 (.int .i64 0)) 2 (.string ⟨#[]⟩)) 3 (.string ⟨#[]⟩)) 4 (.int .i64 0)) 5 (.slice none 0 0)
  refine cell_tmp_end rfl (hE.trans rfl) Try.underlying83 sizeFld' rfl rfl rfl ⟨rfl, ?_⟩
  exact Below.setCell (Below.setCell (Below.setCell (Below.setCell (Below.setCell (Below.setCell (HBW.out) (Nat.le_refl _) _) (Nat.le_refl _) _) (Nat.le_refl _) _) (Nat.le_refl _) _) (Nat.le_refl _) _) (Nat.le_refl _) _
set_option maxRecDepth 100000 in
set_option maxHeartbeats 2000000 in
theorem firstFld_some (q : Fld → Bool) (l : List Fld) (A : Option Addr) (c : Nat) (p p' : Addr) (w : World) (hC : Kd.C kFld w A l.length l) (hc : l.length ≤ c)
    (hF : ∀ x ∈ l, ∀ (A5 : Option Addr) (c5 : Nat) (W : World), Below w.heap.size w W → Calls Try.prog 56 #[.agg #[.string x.f0, .int .i64 x.f1.f0, .string x.f1.f1, .string x.f1.f2, .int .i64 x.f1.f3, .slice A5 x.f1.f4.length c5], .pointer (some p), .pointer (some p')] W fun e W' => e = .returned (.bool (q x)) ∧ Below W.heap.size W W') (x : Fld) (hn : l.find? q = some x) :
    Calls Try.prog 55 #[.slice A l.length c, .func (.func 56) #[] #[.pointer (some p), .pointer (some p')]] w fun e W => ∃ A5 c5, e = .returned (.tuple #[.agg #[.string x.f0, .int .i64 x.f1.f0, .string x.f1.f1, .string x.f1.f2, .int .i64 x.f1.f3, .slice A5 x.f1.f4.length c5], .bool true]) ∧ x.f1.f4.length ≤ c5 ∧ Kd.C kTy W A5 x.f1.f4.length x.f1.f4 ∧ Below w.heap.size w W := by
  have hb0 := bel_alloc (Below.refl w.heap.size w) (.cells #[.string ⟨#[]⟩, .int .i64 0, .string ⟨#[]⟩, .string ⟨#[]⟩, .int .i64 0, .slice none 0 0] 83)
  have HI := Lib.hid (indexFld_any q l A c p p' _ (Kd.C_below hC hb0) hc (fun x hx A5 c5 W hb => hF x hx A5 c5 W (hb0.trans (hb.mono (by simp)))))
  obtain ⟨k, hk, hx⟩ := idxF_some q l 0 x hn
  rw [hk, Nat.zero_add] at HI
  have hlt : k < l.length := (List.getElem?_eq_some_iff.1 hx).1
  have HB0 := Lib.hid hb0
  have HR0 := Lib.hid (blk_new w (.cells #[.string ⟨#[]⟩, .int .i64 0, .string ⟨#[]⟩, .string ⟨#[]⟩, .int .i64 0, .slice none 0 0] 83))
  obtain ⟨ad, A5, c5, hA1, x0, x1, x2, x3, x4, x5, g0, g1⟩ := at_T83 hC (k : Int) (by omega) (by omega)
  subst hA1
  rw [show rd_T83 l (k : Int) = x from by unfold rd_T83; rw [Int.toNat_natCast, List.getD_eq_getElem?_getD, hx]; rfl] at x0 x1 x2 x3 x4 x5 g0 g1
  rw [Int.toNat_natCast] at x0 x1 x2 x3 x4 x5
  have HXS := Lib.hid (And.intro x0 (And.intro x1 (And.intro x2 (And.intro x3 (And.intro x4 x5)))))
  have HG := Lib.hid (And.intro g0 g1)
  have HLM := Lib.hid hC.2.1
  clear hF hC hn hb0 hk hx x0 x1 x2 x3 x4 x5 g0 g1
  go_enter Try.func55, Try.ntmps55
  go_wp2_with (fail)
  refine HI.out.mono ?_
  rintro e w1 ⟨rfl, hb⟩
  have HBW := Lib.hid (bel_trans HB0.out hb)
  have HR := Lib.hid (blk_later hb HR0.out)
  clear hb
  obtain ⟨y0, y1, y2, y3, y4, y5⟩ := HXS.out
  have x0 := cell_later HBW.out y0
  have x1 := cell_later HBW.out y1
  have x2 := cell_later HBW.out y2
  have x3 := cell_later HBW.out y3
  have x4 := cell_later HBW.out y4
  have x5 := cell_later HBW.out y5
  have z0 := (blk_cell HR.out 0).trans rfl
  have z1 := (blk_cell HR.out 1).trans rfl
  have z2 := (blk_cell HR.out 2).trans rfl
  have z3 := (blk_cell HR.out 3).trans rfl
  have z4 := (blk_cell HR.out 4).trans rfl
  have z5 := (blk_cell HR.out 5).trans rfl
  have f0 := blk_free HR.out 0
  have f1 := blk_free HR.out 1
  have f2 := blk_free HR.out 2
  have f3 := blk_free HR.out 3
  have f4 := blk_free HR.out 4
  have f5 := blk_free HR.out 5
  have i0 : 0 ≤ (k : Int) := by omega
  have i1 : (k : Int) < l.length := by omega
  have i2 : ¬ (k : Int) < 0 := by omega
  clear y0 y1 y2 y3 y4 y5
  go_wp2_with (fail)
  have hE := blk_set (blk_set (blk_set (blk_set (blk_set (blk_set (HR.out) 0 (.string x.f0)) 1 (.int .i64 x.f1.f0)) 2 (.string x.f1.f1)) 3 (.string x.f1.f2)) 4 (.int .i64 x.f1.f3)) 5 (.slice A5 x.f1.f4.length c5)
  have hfin := Below.setCell (Below.setCell (Below.setCell (Below.setCell (Below.setCell (Below.setCell (HBW.out) (p := ⟨w.heap.size, 0, none⟩) (Nat.le_refl _) (.string x.f0)) (p := ⟨w.heap.size, 1, none⟩) (Nat.le_refl _) (.int .i64 x.f1.f0)) (p := ⟨w.heap.size, 2, none⟩) (Nat.le_refl _) (.string x.f1.f1)) (p := ⟨w.heap.size, 3, none⟩) (Nat.le_refl _) (.string x.f1.f2)) (p := ⟨w.heap.size, 4, none⟩) (Nat.le_refl _) (.int .i64 x.f1.f3)) (p := ⟨w.heap.size, 5, none⟩) (Nat.le_refl _) (.slice A5 x.f1.f4.length c5)
  refine cell_tmp_end rfl (hE.trans rfl) Try.underlying83 sizeFld' rfl rfl rfl ⟨A5, c5, rfl, HG.out.1, ?_, hfin⟩
  · exact Kd.C_below (HG.out.2) hfin
theorem sizeMth' : (Try.prog.info? 50).map (·.size) = some 7 := by kernel_rfl
set_option maxRecDepth 100000 in
set_option maxHeartbeats 2000000 in
theorem indexMth_any (q : Mth → Bool) (l : List Mth) (A : Option Addr) (c : Nat) (p : Addr) (w : World) (hC : Kd.C kMth w A l.length l) (hc : l.length ≤ c)
    (hF : ∀ x ∈ l, ∀ (A1 : Option Addr) (c1 : Nat) (A6 : Option Addr) (c6 : Nat) (W : World), Below w.heap.size w W → Calls Try.prog 60 #[.agg #[.string x.f0, .slice A1 x.f1.length c1, .int .i64 x.f2.f0, .string x.f2.f1, .string x.f2.f2, .int .i64 x.f2.f3, .slice A6 x.f2.f4.length c6], .pointer (some p)] W fun e W' => e = .returned (.bool (q x)) ∧ Below W.heap.size W W') :
    Calls Try.prog 78 #[.slice A l.length c, .func (.func 60) #[] #[.pointer (some p)]] w fun e w' => e = .returned (.int .i64 (idxF q 0 l)) ∧ Below w.heap.size w w' := by
  have HF := Lib.hid hF
  have hlm : l.length ≤ 9223372036854775807 := hC.2.1
  have HC := Lib.hid hC
  have HBW := Lib.hid (Below.refl w.heap.size w)
  clear hF hC
  go_enter Try.func78, Try.ntmps78
  go_wp2_with (fail)
  go_loopg [8] (l.length + 1) (fun kq v8 W => ∃ k : Nat, v8 = .int .i64 k ∧ Hid (kq + k = l.length + 1 ∧ k ≤ l.length ∧ idxF q 0 l = idxF q k (l.drop k)) ∧ Hid (Below w.heap.size w W))
  case atStart => exact ⟨0, rfl, Lib.hid ⟨rfl, Nat.zero_le _, rfl⟩, HBW⟩
  case round =>
    clear HBW
    obtain ⟨k, rfl, HK, HBW⟩ := hrel
    by_cases hlt : k < l.length
    · obtain ⟨x, hx⟩ : ∃ x, l[k]? = some x := ⟨_, List.getElem?_eq_getElem hlt⟩
      obtain ⟨ad, A1, c1, A6, c6, hA1, x0, x1, x2, x3, x4, x5, x6, g0, g1, g2, g3⟩ := at_T50 (Kd.C_below HC.out HBW.out) (k : Int) (by omega) (by omega)
      subst hA1
      rw [show rd_T50 l (k : Int) = x from by unfold rd_T50; rw [Int.toNat_natCast, List.getD_eq_getElem?_getD, hx]; rfl] at x0 x1 x2 x3 x4 x5 x6 g0 g1 g2 g3
      rw [Int.toNat_natCast] at x0 x1 x2 x3 x4 x5 x6
      have HCALL := Lib.hid (HF.out x (List.mem_of_getElem? hx) A1 c1 A6 c6 wr HBW.out)
      have HD := Lib.hid (HK.out.2.2.trans (idxF_drop q l k x hx))
      have i0 : 0 ≤ (k : Int) := by omega
      have i1 : (k : Int) < l.length := by omega
      have HLT := Lib.hid hlt
      clear hx g0 g1 g2 g3
      cases hq : q x with
      | true =>
        rw [hq] at HCALL HD
        go_wp2_with (fail)
        refine HCALL.out.mono ?_
        rintro e w5 ⟨rfl, hb⟩
        replace HBW := Lib.hid (bel_trans HBW.out hb)
        clear hb hq
        go_wp2_with (fail)
        go_ret
        exact ⟨by rw [HD.out]; rfl, HBW.out⟩
      | false =>
        rw [hq] at HCALL HD
        go_wp2_with (fail)
        refine HCALL.out.mono ?_
        rintro e w5 ⟨rfl, hb⟩
        replace HBW := Lib.hid (bel_trans HBW.out hb)
        clear hb hq
        go_wp2_with (fail)
        go_roundg (gk - 1)
        case measure => have := HK.out.1; have := HK.out.2.1; omega
        case rel => exact ⟨k + 1, by go_num, Lib.hid ⟨by have := HK.out.1; have := HLT.out; omega, HLT.out, HD.out⟩, HBW⟩
    · obtain rfl : k = l.length := by have := HK.out.2.1; omega
      have HE := Lib.hid (show idxF q 0 l = -1 from by have := HK.out.2.2; rw [List.drop_length] at this; exact this)
      go_wp2_with (fail)
      go_ret
      exact ⟨by rw [HE.out]; rfl, HBW.out⟩
set_option maxRecDepth 100000 in
set_option maxHeartbeats 2000000 in
theorem firstMth_none (q : Mth → Bool) (l : List Mth) (A : Option Addr) (c : Nat) (p : Addr) (w : World) (hC : Kd.C kMth w A l.length l) (hc : l.length ≤ c)
    (hF : ∀ x ∈ l, ∀ (A1 : Option Addr) (c1 : Nat) (A6 : Option Addr) (c6 : Nat) (W : World), Below w.heap.size w W → Calls Try.prog 60 #[.agg #[.string x.f0, .slice A1 x.f1.length c1, .int .i64 x.f2.f0, .string x.f2.f1, .string x.f2.f2, .int .i64 x.f2.f3, .slice A6 x.f2.f4.length c6], .pointer (some p)] W fun e W' => e = .returned (.bool (q x)) ∧ Below W.heap.size W W') (hn : l.find? q = none) :
    Calls Try.prog 59 #[.slice A l.length c, .func (.func 60) #[] #[.pointer (some p)]] w fun e w' => e = .returned (.tuple #[.agg #[.string ⟨#[]⟩, .slice none 0 0, .int .i64 0, .string ⟨#[]⟩, .string ⟨#[]⟩, .int .i64 0, .slice none 0 0], .bool false]) ∧ Below w.heap.size w w' := by
  have hb0 := bel_alloc (Below.refl w.heap.size w) (.cells #[.string ⟨#[]⟩, .slice none 0 0, .int .i64 0, .string ⟨#[]⟩, .string ⟨#[]⟩, .int .i64 0, .slice none 0 0] 50)
  have HI := Lib.hid (indexMth_any q l A c p _ (Kd.C_below hC hb0) hc (fun x hx A1 c1 A6 c6 W hb => hF x hx A1 c1 A6 c6 W (hb0.trans (hb.mono (by simp)))))
  rw [idxF_none q l 0 hn] at HI
  have HB0 := Lib.hid hb0
  have HR0 := Lib.hid (blk_new w (.cells #[.string ⟨#[]⟩, .slice none 0 0, .int .i64 0, .string ⟨#[]⟩, .string ⟨#[]⟩, .int .i64 0, .slice none 0 0] 50))
  clear hF hC hn hb0
  go_enter Try.func59, Try.ntmps59
  go_wp2_with (fail)
  refine HI.out.mono ?_
  rintro e w1 ⟨rfl, hb⟩
  have HBW := Lib.hid (bel_trans HB0.out hb)
  have HR := Lib.hid (blk_later hb HR0.out)
  clear hb
  have z0 := (blk_cell HR.out 0).trans rfl
  have z1 := (blk_cell HR.out 1).trans rfl
  have z2 := (blk_cell HR.out 2).trans rfl
  have z3 := (blk_cell HR.out 3).trans rfl
  have z4 := (blk_cell HR.out 4).trans rfl
  have z5 := (blk_cell HR.out 5).trans rfl
  have z6 := (blk_cell HR.out 6).trans rfl
  have f0 := blk_free HR.out 0
  have f1 := blk_free HR.out 1
  have f2 := blk_free HR.out 2
  have f3 := blk_free HR.out 3
  have f4 := blk_free HR.out 4
  have f5 := blk_free HR.out 5
  have f6 := blk_free HR.out 6
  go_wp2_with (fail)
  have hE := blk_set (blk_set (blk_set (blk_set (blk_set (blk_set (blk_set (HR.out) 0 (.string ⟨#[]⟩)) 1 (.slice none 0 0)) 2 (.int .i64 0)) 3 (.string ⟨#[]⟩)) 4 (.string ⟨#[]⟩)) 5 (.int .i64 0)) 6 (.slice none 0 0)
  refine cell_tmp_end rfl (hE.trans rfl) Try.underlying50 sizeMth' rfl rfl rfl ⟨rfl, ?_⟩
  exact Below.setCell (Below.setCell (Below.setCell (Below.setCell (Below.setCell (Below.setCell (Below.setCell (HBW.out) (Nat.le_refl _) _) (Nat.le_refl _) _) (Nat.le_refl _) _) (Nat.le_refl _) _) (Nat.le_refl _) _) (Nat.le_refl _) _) (Nat.le_refl _) _
set_option maxRecDepth 100000 in
set_option maxHeartbeats 2000000 in
theorem firstMth_some (q : Mth → Bool) (l : List Mth) (A : Option Addr) (c : Nat) (p : Addr) (w : World) (hC : Kd.C kMth w A l.length l) (hc : l.length ≤ c)
    (hF : ∀ x ∈ l, ∀ (A1 : Option Addr) (c1 : Nat) (A6 : Option Addr) (c6 : Nat) (W : World), Below w.heap.size w W → Calls Try.prog 60 #[.agg #[.string x.f0, .slice A1 x.f1.length c1, .int .i64 x.f2.f0, .string x.f2.f1, .string x.f2.f2, .int .i64 x.f2.f3, .slice A6 x.f2.f4.length c6], .pointer (some p)] W fun e W' => e = .returned (.bool (q x)) ∧ Below W.heap.size W W') (x : Mth) (hn : l.find? q = some x) :
    Calls Try.prog 59 #[.slice A l.length c, .func (.func 60) #[] #[.pointer (some p)]] w fun e W => ∃ A1 c1 A6 c6, e = .returned (.tuple #[.agg #[.string x.f0, .slice A1 x.f1.length c1, .int .i64 x.f2.f0, .string x.f2.f1, .string x.f2.f2, .int .i64 x.f2.f3, .slice A6 x.f2.f4.length c6], .bool true]) ∧ x.f1.length ≤ c1 ∧ Kd.C kTy W A1 x.f1.length x.f1 ∧ x.f2.f4.length ≤ c6 ∧ Kd.C kTy W A6 x.f2.f4.length x.f2.f4 ∧ Below w.heap.size w W := by
  have hb0 := bel_alloc (Below.refl w.heap.size w) (.cells #[.string ⟨#[]⟩, .slice none 0 0, .int .i64 0, .string ⟨#[]⟩, .string ⟨#[]⟩, .int .i64 0, .slice none 0 0] 50)
  have HI := Lib.hid (indexMth_any q l A c p _ (Kd.C_below hC hb0) hc (fun x hx A1 c1 A6 c6 W hb => hF x hx A1 c1 A6 c6 W (hb0.trans (hb.mono (by simp)))))
  obtain ⟨k, hk, hx⟩ := idxF_some q l 0 x hn
  rw [hk, Nat.zero_add] at HI
  have hlt : k < l.length := (List.getElem?_eq_some_iff.1 hx).1
  have HB0 := Lib.hid hb0
  have HR0 := Lib.hid (blk_new w (.cells #[.string ⟨#[]⟩, .slice none 0 0, .int .i64 0, .string ⟨#[]⟩, .string ⟨#[]⟩, .int .i64 0, .slice none 0 0] 50))
  obtain ⟨ad, A1, c1, A6, c6, hA1, x0, x1, x2, x3, x4, x5, x6, g0, g1, g2, g3⟩ := at_T50 hC (k : Int) (by omega) (by omega)
  subst hA1
  rw [show rd_T50 l (k : Int) = x from by unfold rd_T50; rw [Int.toNat_natCast, List.getD_eq_getElem?_getD, hx]; rfl] at x0 x1 x2 x3 x4 x5 x6 g0 g1 g2 g3
  rw [Int.toNat_natCast] at x0 x1 x2 x3 x4 x5 x6
  have HXS := Lib.hid (And.intro x0 (And.intro x1 (And.intro x2 (And.intro x3 (And.intro x4 (And.intro x5 x6))))))
  have HG := Lib.hid (And.intro g0 (And.intro g1 (And.intro g2 g3)))
  have HLM := Lib.hid hC.2.1
  clear hF hC hn hb0 hk hx x0 x1 x2 x3 x4 x5 x6 g0 g1 g2 g3
  go_enter Try.func59, Try.ntmps59
  go_wp2_with (fail)
  refine HI.out.mono ?_
  rintro e w1 ⟨rfl, hb⟩
  have HBW := Lib.hid (bel_trans HB0.out hb)
  have HR := Lib.hid (blk_later hb HR0.out)
  clear hb
  obtain ⟨y0, y1, y2, y3, y4, y5, y6⟩ := HXS.out
  have x0 := cell_later HBW.out y0
  have x1 := cell_later HBW.out y1
  have x2 := cell_later HBW.out y2
  have x3 := cell_later HBW.out y3
  have x4 := cell_later HBW.out y4
  have x5 := cell_later HBW.out y5
  have x6 := cell_later HBW.out y6
  have z0 := (blk_cell HR.out 0).trans rfl
  have z1 := (blk_cell HR.out 1).trans rfl
  have z2 := (blk_cell HR.out 2).trans rfl
  have z3 := (blk_cell HR.out 3).trans rfl
  have z4 := (blk_cell HR.out 4).trans rfl
  have z5 := (blk_cell HR.out 5).trans rfl
  have z6 := (blk_cell HR.out 6).trans rfl
  have f0 := blk_free HR.out 0
  have f1 := blk_free HR.out 1
  have f2 := blk_free HR.out 2
  have f3 := blk_free HR.out 3
  have f4 := blk_free HR.out 4
  have f5 := blk_free HR.out 5
  have f6 := blk_free HR.out 6
  have i0 : 0 ≤ (k : Int) := by omega
  have i1 : (k : Int) < l.length := by omega
  have i2 : ¬ (k : Int) < 0 := by omega
  clear y0 y1 y2 y3 y4 y5 y6
  go_wp2_with (fail)
  have hE := blk_set (blk_set (blk_set (blk_set (blk_set (blk_set (blk_set (HR.out) 0 (.string x.f0)) 1 (.slice A1 x.f1.length c1)) 2 (.int .i64 x.f2.f0)) 3 (.string x.f2.f1)) 4 (.string x.f2.f2)) 5 (.int .i64 x.f2.f3)) 6 (.slice A6 x.f2.f4.length c6)
  have hfin := Below.setCell (Below.setCell (Below.setCell (Below.setCell (Below.setCell (Below.setCell (Below.setCell (HBW.out) (p := ⟨w.heap.size, 0, none⟩) (Nat.le_refl _) (.string x.f0)) (p := ⟨w.heap.size, 1, none⟩) (Nat.le_refl _) (.slice A1 x.f1.length c1)) (p := ⟨w.heap.size, 2, none⟩) (Nat.le_refl _) (.int .i64 x.f2.f0)) (p := ⟨w.heap.size, 3, none⟩) (Nat.le_refl _) (.string x.f2.f1)) (p := ⟨w.heap.size, 4, none⟩) (Nat.le_refl _) (.string x.f2.f2)) (p := ⟨w.heap.size, 5, none⟩) (Nat.le_refl _) (.int .i64 x.f2.f3)) (p := ⟨w.heap.size, 6, none⟩) (Nat.le_refl _) (.slice A6 x.f2.f4.length c6)
  refine cell_tmp_end rfl (hE.trans rfl) Try.underlying50 sizeMth' rfl rfl rfl ⟨A1, c1, A6, c6, rfl, HG.out.1, ?_, HG.out.2.2.1, ?_, hfin⟩
  · exact Kd.C_below (HG.out.2.1) hfin
  · exact Kd.C_below (HG.out.2.2.2) hfin
end Go.Proofs.Ytbhagjhhgmmcgaa
