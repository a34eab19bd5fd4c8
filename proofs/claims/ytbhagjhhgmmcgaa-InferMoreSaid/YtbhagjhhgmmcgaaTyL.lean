/- The first one of some that is as asked. sets.Find. sets.Iface, Field, Methods. -/
import Derived.Test.YtbhagjhhgmmcgaaTyF
import Derived.Test.YtbhagjhhgmmcgaaTyI
import Derived.StillTailTactics
namespace Go.Proofs.Ytbhagjhhgmmcgaa
open Go.RowKit PRef Go.Proofs.YtbhagjhhgmmcgaaW.PrintWords
set_option linter.unusedVariables false

abbrev Ifc := S74
abbrev kIfc := k74
abbrev Fun := S58
abbrev kFun := k58
/-- Where the first one stands that is as asked. -/
def idxF {α : Type} (q : α → Bool) : Nat → List α → Int
  | _, [] => -1
  | i, x :: r => if q x = true then (i : Int) else idxF q (i + 1) r
theorem idxF_drop {α : Type} (q : α → Bool) (l : List α) (k : Nat) (x : α) (hx : l[k]? = some x) : idxF q k (l.drop k) = if q x = true then (k : Int) else idxF q (k + 1) (l.drop (k + 1)) := by
  obtain ⟨h1, rfl⟩ := List.getElem?_eq_some_iff.1 hx
  rw [List.drop_eq_getElem_cons h1, idxF]
theorem idxF_none {α : Type} (q : α → Bool) : ∀ (l : List α) (i : Nat), l.find? q = none → idxF q i l = -1
  | [], _, _ => rfl
  | x :: r, i, h => by
    rw [List.find?_cons] at h
    cases hq : q x with
    | true => rw [hq] at h; cases h
    | false =>
      rw [hq] at h
      rw [idxF, if_neg (by rw [hq]; decide)]
      exact idxF_none q r (i + 1) h
theorem idxF_some {α : Type} (q : α → Bool) : ∀ (l : List α) (i : Nat) (x : α), l.find? q = some x → ∃ j : Nat, idxF q i l = ((i + j : Nat) : Int) ∧ l[j]? = some x
  | [], _, _, h => by cases h
  | y :: r, i, x, h => by
    rw [List.find?_cons] at h
    cases hq : q y with
    | true =>
      rw [hq] at h
      injection h with h
      subst h
      exact ⟨0, by rw [idxF, if_pos hq]; rfl, rfl⟩
    | false =>
      rw [hq] at h
      obtain ⟨j, h1, h2⟩ := idxF_some q r (i + 1) x h
      refine ⟨j + 1, by rw [idxF, if_neg (by rw [hq]; decide), h1]; congr 1; omega, by simpa using h2⟩
theorem cell_tmp_end {fn : Func} {p u : Tmp} {ty : TypeId} (hr : fn.results = #[.cell p ty, .tmp u]) {R : Ending → World → Prop} {a : Act} {W : World} {h : Nat} {cs : Array Value} {x : Value} {fs : Array Field} (hR : W.heap[h]? = some (.cells cs ty (0, 0)))
    (hu : Try.prog.underlying ty = some (.struct fs)) (hsz : (Try.prog.info? ty).map (·.size) = some cs.size) (hp : a.tmps.getD p undef = .pointer (some ⟨h, 0, none⟩)) (hx : a.tmps.getD u undef = x) (hd : a.defers = []) (hQ : R (.returned (.tuple #[.agg cs, x])) W) :
    bodyPost Try.prog fn R .ret a W := by
  refine bodyPost_ret ((results_cell_tmp (p := p) (u := u) (ty := ty) hr a.tmps Try.prog _).trans ?_) hd hQ
  rw [hp, hx]
  have h3 := run_loadVar_row (P := Try.prog) _ h ty ty cs (0, 0) _ hR hu rfl hsz
  simp only [asAddr, Sem.run_pure, Result.andThen_ok, h3]

theorem sizeIfc' : (Try.prog.info? 74).map (·.size) = some 3 := by kernel_rfl
set_option maxRecDepth 100000 in
set_option maxHeartbeats 2000000 in
theorem indexIfc_any (q : Ifc → Bool) (l : List Ifc) (A : Option Addr) (c : Nat) (p : Addr) (w : World) (hC : Kd.C kIfc w A l.length l) (hc : l.length ≤ c)
    (hF : ∀ x ∈ l, ∀ (A1 : Option Addr) (c1 : Nat) (A2 : Option Addr) (c2 : Nat) (W : World), Below w.heap.size w W → Calls Try.prog 50 #[.agg #[.string x.f0, .slice A1 x.f1.length c1, .slice A2 x.f2.length c2], .pointer (some p)] W fun e W' => e = .returned (.bool (q x)) ∧ Below W.heap.size W W') :
    Calls Try.prog 71 #[.slice A l.length c, .func (.func 50) #[] #[.pointer (some p)]] w fun e w' => e = .returned (.int .i64 (idxF q 0 l)) ∧ Below w.heap.size w w' := by
  have HF := Lib.hid hF
  have hlm : l.length ≤ 9223372036854775807 := hC.2.1
  have HC := Lib.hid hC
  have HBW := Lib.hid (Below.refl w.heap.size w)
  clear hF hC
  go_enter Try.func71, Try.ntmps71
  go_wp2_with (fail)
  go_loopg [8] (l.length + 1) (fun kq v8 W => ∃ k : Nat, v8 = .int .i64 k ∧ Hid (kq + k = l.length + 1 ∧ k ≤ l.length ∧ idxF q 0 l = idxF q k (l.drop k)) ∧ Hid (Below w.heap.size w W))
  case atStart => exact ⟨0, rfl, Lib.hid ⟨rfl, Nat.zero_le _, rfl⟩, HBW⟩
  case round =>
    clear HBW
    obtain ⟨k, rfl, HK, HBW⟩ := hrel
    by_cases hlt : k < l.length
    · obtain ⟨x, hx⟩ : ∃ x, l[k]? = some x := ⟨_, List.getElem?_eq_getElem hlt⟩
      obtain ⟨ad, A1, c1, A2, c2, hA1, x0, x1, x2, g0, g1, g2, g3⟩ := at_T74 (Kd.C_below HC.out HBW.out) (k : Int) (by omega) (by omega)
      subst hA1
      rw [show rd_T74 l (k : Int) = x from by unfold rd_T74; rw [Int.toNat_natCast, List.getD_eq_getElem?_getD, hx]; rfl] at x0 x1 x2 g0 g1 g2 g3
      rw [Int.toNat_natCast] at x0 x1 x2
      have HCALL := Lib.hid (HF.out x (List.mem_of_getElem? hx) A1 c1 A2 c2 wr HBW.out)
      have HD := Lib.hid (HK.out.2.2.trans (idxF_drop q l k x hx))
      have i0 : 0 ≤ (k : Int) := by omega
      have i1 : (k : Int) < l.length := by omega
      have HLT := Lib.hid hlt
      clear hx g0 g1 g2 g3
      cases hq : q x with
      | true =>
        rw [hq] at HCALL HD
        go_wp2_with (fail)
        refine HCALL.out.mono ?_
        rintro e w5 ⟨rfl, hb⟩
        replace HBW := Lib.hid (bel_trans HBW.out hb)
        clear hb hq
        go_wp2_with (fail)
        go_ret
        exact ⟨by rw [HD.out]; rfl, HBW.out⟩
      | false =>
        rw [hq] at HCALL HD
        go_wp2_with (fail)
        refine HCALL.out.mono ?_
        rintro e w5 ⟨rfl, hb⟩
        replace HBW := Lib.hid (bel_trans HBW.out hb)
        clear hb hq
        go_wp2_with (fail)
        go_roundg (gk - 1)
        case measure => have := HK.out.1; have := HK.out.2.1; omega
        case rel => exact ⟨k + 1, by go_num, Lib.hid ⟨by have := HK.out.1; have := HLT.out; omega, HLT.out, HD.out⟩, HBW⟩
    · obtain rfl : k = l.length := by have := HK.out.2.1; omega
      have HE := Lib.hid (show idxF q 0 l = -1 from by have := HK.out.2.2; rw [List.drop_length] at this; exact this)
      go_wp2_with (fail)
      go_ret
      exact ⟨by rw [HE.out]; rfl, HBW.out⟩
set_option maxRecDepth 100000 in
set_option maxHeartbeats 2000000 in
theorem firstIfc_none (q : Ifc → Bool) (l : List Ifc) (A : Option Addr) (c : Nat) (p : Addr) (w : World) (hC : Kd.C kIfc w A l.length l) (hc : l.length ≤ c)
    (hF : ∀ x ∈ l, ∀ (A1 : Option Addr) (c1 : Nat) (A2 : Option Addr) (c2 : Nat) (W : World), Below w.heap.size w W → Calls Try.prog 50 #[.agg #[.string x.f0, .slice A1 x.f1.length c1, .slice A2 x.f2.length c2], .pointer (some p)] W fun e W' => e = .returned (.bool (q x)) ∧ Below W.heap.size W W') (hn : l.find? q = none) :
    Calls Try.prog 49 #[.slice A l.length c, .func (.func 50) #[] #[.pointer (some p)]] w fun e w' => e = .returned (.tuple #[.agg #[.string ⟨#[]⟩, .slice none 0 0, .slice none 0 0], .bool false]) ∧ Below w.heap.size w w' := by
  have hb0 := bel_alloc (Below.refl w.heap.size w) (.cells #[.string ⟨#[]⟩, .slice none 0 0, .slice none 0 0] 74)
  have HI := Lib.hid (indexIfc_any q l A c p _ (Kd.C_below hC hb0) hc (fun x hx A1 c1 A2 c2 W hb => hF x hx A1 c1 A2 c2 W (hb0.trans (hb.mono (by simp)))))
  rw [idxF_none q l 0 hn] at HI
  have HB0 := Lib.hid hb0
  have HR0 := Lib.hid (blk_new w (.cells #[.string ⟨#[]⟩, .slice none 0 0, .slice none 0 0] 74))
  clear hF hC hn hb0
  go_enter Try.func49, Try.ntmps49
  go_wp2_with (fail)
  refine HI.out.mono ?_
  rintro e w1 ⟨rfl, hb⟩
  have HBW := Lib.hid (bel_trans HB0.out hb)
  have HR := Lib.hid (blk_later hb HR0.out)
  clear hb
  have z0 := (blk_cell HR.out 0).trans rfl
  have z1 := (blk_cell HR.out 1).trans rfl
  have z2 := (blk_cell HR.out 2).trans rfl
  have f0 := blk_free HR.out 0
  have f1 := blk_free HR.out 1
  have f2 := blk_free HR.out 2
  go_wp2_with (fail)
  have hE := blk_set (blk_set (blk_set (HR.out) 0 (.string ⟨#[]⟩)) 1 (.slice none 0 0)) 2 (.slice none 0 0)
  refine cell_tmp_end rfl (hE.trans rfl) Try.underlying74 sizeIfc' rfl rfl rfl ⟨rfl, ?_⟩
  exact Below.setCell (Below.setCell (Below.setCell (HBW.out) (Nat.le_refl _) _) (Nat.le_refl _) _) (Nat.le_refl _) _
set_option maxRecDepth 100000 in
set_option maxHeartbeats 2000000 in
theorem firstIfc_some (q : Ifc → Bool) (l : List Ifc) (A : Option Addr) (c : Nat) (p : Addr) (w : World) (hC : Kd.C kIfc w A l.length l) (hc : l.length ≤ c)
    (hF : ∀ x ∈ l, ∀ (A1 : Option Addr) (c1 : Nat) (A2 : Option Addr) (c2 : Nat) (W : World), Below w.heap.size w W → Calls Try.prog 50 #[.agg #[.string x.f0, .slice A1 x.f1.length c1, .slice A2 x.f2.length c2], .pointer (some p)] W fun e W' => e = .returned (.bool (q x)) ∧ Below W.heap.size W W') (x : Ifc) (hn : l.find? q = some x) :
    Calls Try.prog 49 #[.slice A l.length c, .func (.func 50) #[] #[.pointer (some p)]] w fun e W => ∃ A1 c1 A2 c2, e = .returned (.tuple #[.agg #[.string x.f0, .slice A1 x.f1.length c1, .slice A2 x.f2.length c2], .bool true]) ∧ x.f1.length ≤ c1 ∧ Kd.C kDcl W A1 x.f1.length x.f1 ∧ x.f2.length ≤ c2 ∧ Kd.C kFun W A2 x.f2.length x.f2 ∧ Below w.heap.size w W := by
  have hb0 := bel_alloc (Below.refl w.heap.size w) (.cells #[.string ⟨#[]⟩, .slice none 0 0, .slice none 0 0] 74)
  have HI := Lib.hid (indexIfc_any q l A c p _ (Kd.C_below hC hb0) hc (fun x hx A1 c1 A2 c2 W hb => hF x hx A1 c1 A2 c2 W (hb0.trans (hb.mono (by simp)))))
  obtain ⟨k, hk, hx⟩ := idxF_some q l 0 x hn
  rw [hk, Nat.zero_add] at HI
  have hlt : k < l.length := (List.getElem?_eq_some_iff.1 hx).1
  have HB0 := Lib.hid hb0
  have HR0 := Lib.hid (blk_new w (.cells #[.string ⟨#[]⟩, .slice none 0 0, .slice none 0 0] 74))
  obtain ⟨ad, A1, c1, A2, c2, hA1, x0, x1, x2, g0, g1, g2, g3⟩ := at_T74 hC (k : Int) (by omega) (by omega)
  subst hA1
  rw [show rd_T74 l (k : Int) = x from by unfold rd_T74; rw [Int.toNat_natCast, List.getD_eq_getElem?_getD, hx]; rfl] at x0 x1 x2 g0 g1 g2 g3
  rw [Int.toNat_natCast] at x0 x1 x2
  have HXS := Lib.hid (And.intro x0 (And.intro x1 x2))
  have HG := Lib.hid (And.intro g0 (And.intro g1 (And.intro g2 g3)))
  have HLM := Lib.hid hC.2.1
  clear hF hC hn hb0 hk hx x0 x1 x2 g0 g1 g2 g3
  go_enter Try.func49, Try.ntmps49
  go_wp2_with (fail)
  refine HI.out.mono ?_
  rintro e w1 ⟨rfl, hb⟩
  have HBW := Lib.hid (bel_trans HB0.out hb)
  have HR := Lib.hid (blk_later hb HR0.out)
  clear hb
  obtain ⟨y0, y1, y2⟩ := HXS.out
  have x0 := cell_later HBW.out y0
  have x1 := cell_later HBW.out y1
  have x2 := cell_later HBW.out y2
  have z0 := (blk_cell HR.out 0).trans rfl
  have z1 := (blk_cell HR.out 1).trans rfl
  have z2 := (blk_cell HR.out 2).trans rfl
  have f0 := blk_free HR.out 0
  have f1 := blk_free HR.out 1
  have f2 := blk_free HR.out 2
  have i0 : 0 ≤ (k : Int) := by omega
  have i1 : (k : Int) < l.length := by omega
  have i2 : ¬ (k : Int) < 0 := by omega
  clear y0 y1 y2
  go_wp2_with (fail)
  have hE := blk_set (blk_set (blk_set (HR.out) 0 (.string x.f0)) 1 (.slice A1 x.f1.length c1)) 2 (.slice A2 x.f2.length c2)
  have hfin := Below.setCell (Below.setCell (Below.setCell (HBW.out) (p := ⟨w.heap.size, 0, none⟩) (Nat.le_refl _) (.string x.f0)) (p := ⟨w.heap.size, 1, none⟩) (Nat.le_refl _) (.slice A1 x.f1.length c1)) (p := ⟨w.heap.size, 2, none⟩) (Nat.le_refl _) (.slice A2 x.f2.length c2)
  refine cell_tmp_end rfl (hE.trans rfl) Try.underlying74 sizeIfc' rfl rfl rfl ⟨A1, c1, A2, c2, rfl, HG.out.1, ?_, HG.out.2.2.1, ?_, hfin⟩
  · exact Kd.C_below (HG.out.2.1) hfin
  · exact Kd.C_below (HG.out.2.2.2) hfin
theorem sizeDcl' : (Try.prog.info? 35).map (·.size) = some 4 := by kernel_rfl
set_option maxRecDepth 100000 in
set_option maxHeartbeats 2000000 in
theorem indexDcl_any (q : Dcl → Bool) (l : List Dcl) (A : Option Addr) (c : Nat) (p : Addr) (w : World) (hC : Kd.C kDcl w A l.length l) (hc : l.length ≤ c)
    (hF : ∀ x ∈ l, ∀ (A2 : Option Addr) (c2 : Nat) (A3 : Option Addr) (c3 : Nat) (W : World), Below w.heap.size w W → Calls Try.prog 52 #[.agg #[.string x.f0, .bool x.f1, .slice A2 x.f2.length c2, .slice A3 x.f3.length c3], .pointer (some p)] W fun e W' => e = .returned (.bool (q x)) ∧ Below W.heap.size W W') :
    Calls Try.prog 72 #[.slice A l.length c, .func (.func 52) #[] #[.pointer (some p)]] w fun e w' => e = .returned (.int .i64 (idxF q 0 l)) ∧ Below w.heap.size w w' := by
  have HF := Lib.hid hF
  have hlm : l.length ≤ 9223372036854775807 := hC.2.1
  have HC := Lib.hid hC
  have HBW := Lib.hid (Below.refl w.heap.size w)
  clear hF hC
  go_enter Try.func72, Try.ntmps72
  go_wp2_with (fail)
  go_loopg [8] (l.length + 1) (fun kq v8 W => ∃ k : Nat, v8 = .int .i64 k ∧ Hid (kq + k = l.length + 1 ∧ k ≤ l.length ∧ idxF q 0 l = idxF q k (l.drop k)) ∧ Hid (Below w.heap.size w W))
  case atStart => exact ⟨0, rfl, Lib.hid ⟨rfl, Nat.zero_le _, rfl⟩, HBW⟩
  case round =>
    clear HBW
    obtain ⟨k, rfl, HK, HBW⟩ := hrel
    by_cases hlt : k < l.length
    · obtain ⟨x, hx⟩ : ∃ x, l[k]? = some x := ⟨_, List.getElem?_eq_getElem hlt⟩
      obtain ⟨ad, A2, c2, A3, c3, hA1, x0, x1, x2, x3, g0, g1, g2, g3⟩ := at_T35 (Kd.C_below HC.out HBW.out) (k : Int) (by omega) (by omega)
      subst hA1
      rw [show rd_T35 l (k : Int) = x from by unfold rd_T35; rw [Int.toNat_natCast, List.getD_eq_getElem?_getD, hx]; rfl] at x0 x1 x2 x3 g0 g1 g2 g3
      rw [Int.toNat_natCast] at x0 x1 x2 x3
      have HCALL := Lib.hid (HF.out x (List.mem_of_getElem? hx) A2 c2 A3 c3 wr HBW.out)
      have HD := Lib.hid (HK.out.2.2.trans (idxF_drop q l k x hx))
      have i0 : 0 ≤ (k : Int) := by omega
      have i1 : (k : Int) < l.length := by omega
      have HLT := Lib.hid hlt
      clear hx g0 g1 g2 g3
      cases hq : q x with
      | true =>
        rw [hq] at HCALL HD
        go_wp2_with (fail)
        refine HCALL.out.mono ?_
        rintro e w5 ⟨rfl, hb⟩
        replace HBW := Lib.hid (bel_trans HBW.out hb)
        clear hb hq
        go_wp2_with (fail)
        go_ret
        exact ⟨by rw [HD.out]; rfl, HBW.out⟩
      | false =>
        rw [hq] at HCALL HD
        go_wp2_with (fail)
        refine HCALL.out.mono ?_
        rintro e w5 ⟨rfl, hb⟩
        replace HBW := Lib.hid (bel_trans HBW.out hb)
        clear hb hq
        go_wp2_with (fail)
        go_roundg (gk - 1)
        case measure => have := HK.out.1; have := HK.out.2.1; omega
        case rel => exact ⟨k + 1, by go_num, Lib.hid ⟨by have := HK.out.1; have := HLT.out; omega, HLT.out, HD.out⟩, HBW⟩
    · obtain rfl : k = l.length := by have := HK.out.2.1; omega
      have HE := Lib.hid (show idxF q 0 l = -1 from by have := HK.out.2.2; rw [List.drop_length] at this; exact this)
      go_wp2_with (fail)
      go_ret
      exact ⟨by rw [HE.out]; rfl, HBW.out⟩
set_option maxRecDepth 100000 in
set_option maxHeartbeats 2000000 in
theorem firstDcl_none (q : Dcl → Bool) (l : List Dcl) (A : Option Addr) (c : Nat) (p : Addr) (w : World) (hC : Kd.C kDcl w A l.length l) (hc : l.length ≤ c)
    (hF : ∀ x ∈ l, ∀ (A2 : Option Addr) (c2 : Nat) (A3 : Option Addr) (c3 : Nat) (W : World), Below w.heap.size w W → Calls Try.prog 52 #[.agg #[.string x.f0, .bool x.f1, .slice A2 x.f2.length c2, .slice A3 x.f3.length c3], .pointer (some p)] W fun e W' => e = .returned (.bool (q x)) ∧ Below W.heap.size W W') (hn : l.find? q = none) :
    Calls Try.prog 51 #[.slice A l.length c, .func (.func 52) #[] #[.pointer (some p)]] w fun e w' => e = .returned (.tuple #[.agg #[.string ⟨#[]⟩, .bool false, .slice none 0 0, .slice none 0 0], .bool false]) ∧ Below w.heap.size w w' := by
  have hb0 := bel_alloc (Below.refl w.heap.size w) (.cells #[.string ⟨#[]⟩, .bool false, .slice none 0 0, .slice none 0 0] 35)
  have HI := Lib.hid (indexDcl_any q l A c p _ (Kd.C_below hC hb0) hc (fun x hx A2 c2 A3 c3 W hb => hF x hx A2 c2 A3 c3 W (hb0.trans (hb.mono (by simp)))))
  rw [idxF_none q l 0 hn] at HI
  have HB0 := Lib.hid hb0
  have HR0 := Lib.hid (blk_new w (.cells #[.string ⟨#[]⟩, .bool false, .slice none 0 0, .slice none 0 0] 35))
  clear hF hC hn hb0
  go_enter Try.func51, Try.ntmps51
  go_wp2_with (fail)
  refine HI.out.mono ?_
  rintro e w1 ⟨rfl, hb⟩
  have HBW := Lib.hid (bel_trans HB0.out hb)
  have HR := Lib.hid (blk_later hb HR0.out)
  clear hb
  have z0 := (blk_cell HR.out 0).trans rfl
  have z1 := (blk_cell HR.out 1).trans rfl
  have z2 := (blk_cell HR.out 2).trans rfl
  have z3 := (blk_cell HR.out 3).trans rfl
  have f0 := blk_free HR.out 0
  have f1 := blk_free HR.out 1
  have f2 := blk_free HR.out 2
  have f3 := blk_free HR.out 3
  go_wp2_with (fail)
  have hE := blk_set (blk_set (blk_set (blk_set (HR.out) 0 (.string ⟨#[]⟩)) 1 (.bool false)) 2 (.slice none 0 0)) 3 (.slice none 0 0)
  refine cell_tmp_end rfl (hE.trans rfl) Try.underlying35 sizeDcl' rfl rfl rfl ⟨rfl, ?_⟩
  exact Below.setCell (Below.setCell (Below.setCell (Below.setCell (HBW.out) (Nat.le_refl _) _) (Nat.le_refl _) _) (Nat.le_refl _) _) (Nat.le_refl _) _
set_option maxRecDepth 100000 in
set_option maxHeartbeats 2000000 in
theorem firstDcl_some (q : Dcl → Bool) (l : List Dcl) (A : Option Addr) (c : Nat) (p : Addr) (w : World) (hC : Kd.C kDcl w A l.length l) (hc : l.length ≤ c)
    (hF : ∀ x ∈ l, ∀ (A2 : Option Addr) (c2 : Nat) (A3 : Option Addr) (c3 : Nat) (W : World), Below w.heap.size w W → Calls Try.prog 52 #[.agg #[.string x.f0, .bool x.f1, .slice A2 x.f2.length c2, .slice A3 x.f3.length c3], .pointer (some p)] W fun e W' => e = .returned (.bool (q x)) ∧ Below W.heap.size W W') (x : Dcl) (hn : l.find? q = some x) :
    Calls Try.prog 51 #[.slice A l.length c, .func (.func 52) #[] #[.pointer (some p)]] w fun e W => ∃ A2 c2 A3 c3, e = .returned (.tuple #[.agg #[.string x.f0, .bool x.f1, .slice A2 x.f2.length c2, .slice A3 x.f3.length c3], .bool true]) ∧ x.f2.length ≤ c2 ∧ Kd.C kFld W A2 x.f2.length x.f2 ∧ x.f3.length ≤ c3 ∧ Kd.C kMth W A3 x.f3.length x.f3 ∧ Below w.heap.size w W := by
  have hb0 := bel_alloc (Below.refl w.heap.size w) (.cells #[.string ⟨#[]⟩, .bool false, .slice none 0 0, .slice none 0 0] 35)
  have HI := Lib.hid (indexDcl_any q l A c p _ (Kd.C_below hC hb0) hc (fun x hx A2 c2 A3 c3 W hb => hF x hx A2 c2 A3 c3 W (hb0.trans (hb.mono (by simp)))))
  obtain ⟨k, hk, hx⟩ := idxF_some q l 0 x hn
  rw [hk, Nat.zero_add] at HI
  have hlt : k < l.length := (List.getElem?_eq_some_iff.1 hx).1
  have HB0 := Lib.hid hb0
  have HR0 := Lib.hid (blk_new w (.cells #[.string ⟨#[]⟩, .bool false, .slice none 0 0, .slice none 0 0] 35))
  obtain ⟨ad, A2, c2, A3, c3, hA1, x0, x1, x2, x3, g0, g1, g2, g3⟩ := at_T35 hC (k : Int) (by omega) (by omega)
  subst hA1
  rw [show rd_T35 l (k : Int) = x from by unfold rd_T35; rw [Int.toNat_natCast, List.getD_eq_getElem?_getD, hx]; rfl] at x0 x1 x2 x3 g0 g1 g2 g3
  rw [Int.toNat_natCast] at x0 x1 x2 x3
  have HXS := Lib.hid (And.intro x0 (And.intro x1 (And.intro x2 x3)))
  have HG := Lib.hid (And.intro g0 (And.intro g1 (And.intro g2 g3)))
  have HLM := Lib.hid hC.2.1
  clear hF hC hn hb0 hk hx x0 x1 x2 x3 g0 g1 g2 g3
  go_enter Try.func51, Try.ntmps51
  go_wp2_with (fail)
  refine HI.out.mono ?_
  rintro e w1 ⟨rfl, hb⟩
  have HBW := Lib.hid (bel_trans HB0.out hb)
  have HR := Lib.hid (blk_later hb HR0.out)
  clear hb
  obtain ⟨y0, y1, y2, y3⟩ := HXS.out
  have x0 := cell_later HBW.out y0
  have x1 := cell_later HBW.out y1
  have x2 := cell_later HBW.out y2
  have x3 := cell_later HBW.out y3
  have z0 := (blk_cell HR.out 0).trans rfl
  have z1 := (blk_cell HR.out 1).trans rfl
  have z2 := (blk_cell HR.out 2).trans rfl
  have z3 := (blk_cell HR.out 3).trans rfl
  have f0 := blk_free HR.out 0
  have f1 := blk_free HR.out 1
  have f2 := blk_free HR.out 2
  have f3 := blk_free HR.out 3
  have i0 : 0 ≤ (k : Int) := by omega
  have i1 : (k : Int) < l.length := by omega
  have i2 : ¬ (k : Int) < 0 := by omega
  clear y0 y1 y2 y3
  go_wp2_with (fail)
  have hE := blk_set (blk_set (blk_set (blk_set (HR.out) 0 (.string x.f0)) 1 (.bool x.f1)) 2 (.slice A2 x.f2.length c2)) 3 (.slice A3 x.f3.length c3)
  have hfin := Below.setCell (Below.setCell (Below.setCell (Below.setCell (HBW.out) (p := ⟨w.heap.size, 0, none⟩) (Nat.le_refl _) (.string x.f0)) (p := ⟨w.heap.size, 1, none⟩) (Nat.le_refl _) (.bool x.f1)) (p := ⟨w.heap.size, 2, none⟩) (Nat.le_refl _) (.slice A2 x.f2.length c2)) (p := ⟨w.heap.size, 3, none⟩) (Nat.le_refl _) (.slice A3 x.f3.length c3)
  refine cell_tmp_end rfl (hE.trans rfl) Try.underlying35 sizeDcl' rfl rfl rfl ⟨A2, c2, A3, c3, rfl, HG.out.1, ?_, HG.out.2.2.1, ?_, hfin⟩
  · exact Kd.C_below (HG.out.2.1) hfin
  · exact Kd.C_below (HG.out.2.2.2) hfin
theorem sizeFld' : (Try.prog.info? 83).map (·.size) = some 6 := by kernel_rfl
set_option maxRecDepth 100000 in
set_option maxHeartbeats 2000000 in
theorem indexFld_any (q : Fld → Bool) (l : List Fld) (A : Option Addr) (c : Nat) (p p' : Addr) (w : World) (hC : Kd.C kFld w A l.length l) (hc : l.length ≤ c)
    (hF : ∀ x ∈ l, ∀ (A5 : Option Addr) (c5 : Nat) (W : World), Below w.heap.size w W → Calls Try.prog 56 #[.agg #[.string x.f0, .int .i64 x.f1.f0, .string x.f1.f1, .string x.f1.f2, .int .i64 x.f1.f3, .slice A5 x.f1.f4.length c5], .pointer (some p), .pointer (some p')] W fun e W' => e = .returned (.bool (q x)) ∧ Below W.heap.size W W') :
    Calls Try.prog 76 #[.slice A l.length c, .func (.func 56) #[] #[.pointer (some p), .pointer (some p')]] w fun e w' => e = .returned (.int .i64 (idxF q 0 l)) ∧ Below w.heap.size w w' := by
  have HF := Lib.hid hF
  have hlm : l.length ≤ 9223372036854775807 := hC.2.1
  have HC := Lib.hid hC
  have HBW := Lib.hid (Below.refl w.heap.size w)
  clear hF hC
  go_enter Try.func76, Try.ntmps76
  go_wp2_with (fail)
  go_loopg [8] (l.length + 1) (fun kq v8 W => ∃ k : Nat, v8 = .int .i64 k ∧ Hid (kq + k = l.length + 1 ∧ k ≤ l.length ∧ idxF q 0 l = idxF q k (l.drop k)) ∧ Hid (Below w.heap.size w W))
  case atStart => exact ⟨0, rfl, Lib.hid ⟨rfl, Nat.zero_le _, rfl⟩, HBW⟩
  case round =>
    clear HBW
    obtain ⟨k, rfl, HK, HBW⟩ := hrel
    by_cases hlt : k < l.length
    · obtain ⟨x, hx⟩ : ∃ x, l[k]? = some x := ⟨_, List.getElem?_eq_getElem hlt⟩
      obtain ⟨ad, A5, c5, hA1, x0, x1, x2, x3, x4, x5, g0, g1⟩ := at_T83 (Kd.C_below HC.out HBW.out) (k : Int) (by omega) (by omega)
      subst hA1
      rw [show rd_T83 l (k : Int) = x from by unfold rd_T83; rw [Int.toNat_natCast, List.getD_eq_getElem?_getD, hx]; rfl] at x0 x1 x2 x3 x4 x5 g0 g1
      rw [Int.toNat_natCast] at x0 x1 x2 x3 x4 x5
      have HCALL := Lib.hid (HF.out x (List.mem_of_getElem? hx) A5 c5 wr HBW.out)
      have HD := Lib.hid (HK.out.2.2.trans (idxF_drop q l k x hx))
      have i0 : 0 ≤ (k : Int) := by omega
      have i1 : (k : Int) < l.length := by omega
      have HLT := Lib.hid hlt
      clear hx g0 g1
      cases hq : q x with
      | true =>
        rw [hq] at HCALL HD
        go_wp2_with (fail)
        refine HCALL.out.mono ?_
        rintro e w5 ⟨rfl, hb⟩
        replace HBW := Lib.hid (bel_trans HBW.out hb)
        clear hb hq
        go_wp2_with (fail)
        go_ret
        exact ⟨by rw [HD.out]; rfl, HBW.out⟩
      | false =>
        rw [hq] at HCALL HD
        go_wp2_with (fail)
        refine HCALL.out.mono ?_
        rintro e w5 ⟨rfl, hb⟩
        replace HBW := Lib.hid (bel_trans HBW.out hb)
        clear hb hq
        go_wp2_with (fail)
        go_roundg (gk - 1)
        case measure => have := HK.out.1; have := HK.out.2.1; omega
        case rel => exact ⟨k + 1, by go_num, Lib.hid ⟨by have := HK.out.1; have := HLT.out; omega, HLT.out, HD.out⟩, HBW⟩
    · obtain rfl : k = l.length := by have := HK.out.2.1; omega
      have HE := Lib.hid (show idxF q 0 l = -1 from by have := HK.out.2.2; rw [List.drop_length] at this; exact this)
      go_wp2_with (fail)
      go_ret
      exact ⟨by rw [HE.out]; rfl, HBW.out⟩
set_option maxRecDepth 100000 in
set_option maxHeartbeats 2000000 in
theorem firstFld_none (q : Fld → Bool) (l : List Fld) (A : Option Addr) (c : Nat) (p p' : Addr) (w : World) (hC : Kd.C kFld w A l.length l) (hc : l.length ≤ c)
    (hF : ∀ x ∈ l, ∀ (A5 : Option Addr) (c5 : Nat) (W : World), Below w.heap.size w W → Calls Try.prog 56 #[.agg #[.string x.f0, .int .i64 x.f1.f0, .string x.f1.f1, .string x.f1.f2, .int .i64 x.f1.f3, .slice A5 x.f1.f4.length c5], .pointer (some p), .pointer (some p')] W fun e W' => e = .returned (.bool (q x)) ∧ Below W.heap.size W W') (hn : l.find? q = none) :
    Calls Try.prog 55 #[.slice A l.length c, .func (.func 56) #[] #[.pointer (some p), .pointer (some p')]] w fun e w' => e = .returned (.tuple #[.agg #[.string ⟨#[]⟩, .int .i64 0, .string ⟨#[]⟩, .string ⟨#[]⟩, .int .i64 0, .slice none 0 0], .bool false]) ∧ Below w.heap.size w w' := by
  have hb0 := bel_alloc (Below.refl w.heap.size w) (.cells #[.string ⟨#[]⟩, .int .i64 0, .string ⟨#[]⟩, .string ⟨#[]⟩, .int .i64 0, .slice none 0 0] 83)
  have HI := Lib.hid (indexFld_any q l A c p p' _ (Kd.C_below hC hb0) hc (fun x hx A5 c5 W hb => hF x hx A5 c5 W (hb0.trans (hb.mono (by simp)))))
  rw [idxF_none q l 0 hn] at HI
  have HB0 := Lib.hid hb0
  have HR0 := Lib.hid (blk_new w (.cells #[.string ⟨#[]⟩, .int .i64 0, .string ⟨#[]⟩, .string ⟨#[]⟩, .int .i64 0, .slice none 0 0] 83))
  clear hF hC hn hb0
  go_enter Try.func55, Try.ntmps55
  go_wp2_with (fail)
  refine HI.out.mono ?_
  rintro e w1 ⟨rfl, hb⟩
  have HBW := Lib.hid (bel_trans HB0.out hb)
  have HR := Lib.hid (blk_later hb HR0.out)
  clear hb
  have z0 := (blk_cell HR.out 0).trans rfl
  have z1 := (blk_cell HR.out 1).trans rfl
  have z2 := (blk_cell HR.out 2).trans rfl
  have z3 := (blk_cell HR.out 3).trans rfl
  have z4 := (blk_cell HR.out 4).trans rfl
  have z5 := (blk_cell HR.out 5).trans rfl
  have f0 := blk_free HR.out 0
  have f1 := blk_free HR.out 1
  have f2 := blk_free HR.out 2
  have f3 := blk_free HR.out 3
  have f4 := blk_free HR.out 4
  have f5 := blk_free HR.out 5
  go_wp2_with (fail)
  have hE := blk_set (blk_set (blk_set (blk_set (blk_set (blk_set (HR.out) 0 (.string ⟨#[]⟩)) 1 (.int .i64 0)) 2 (.string ⟨#[]⟩)) 3 (.string ⟨#[]⟩)) 4 (.int .i64 0)) 5 (.slice none 0 0)
  refine cell_tmp_end rfl (hE.trans rfl) Try.underlying83 sizeFld' rfl rfl rfl ⟨rfl, ?_⟩
  exact Below.setCell (Below.setCell (Below.setCell (Below.setCell (Below.setCell (Below.setCell (HBW.out) (Nat.le_refl _) _) (Nat.le_refl _) _) (Nat.le_refl _) _) (Nat.le_refl _) _) (Nat.le_refl _) _) (Nat.le_refl _) _
set_option maxRecDepth 100000 in
set_option maxHeartbeats 2000000 in
theorem firstFld_some (q : Fld → Bool) (l : List Fld) (A : Option Addr) (c : Nat) (p p' : Addr) (w : World) (hC : Kd.C kFld w A l.length l) (hc : l.length ≤ c)
    (hF : ∀ x ∈ l, ∀ (A5 : Option Addr) (c5 : Nat) (W : World), Below w.heap.size w W → Calls Try.prog 56 #[.agg #[.string x.f0, .int .i64 x.f1.f0, .string x.f1.f1, .string x.f1.f2, .int .i64 x.f1.f3, .slice A5 x.f1.f4.length c5], .pointer (some p), .pointer (some p')] W fun e W' => e = .returned (.bool (q x)) ∧ Below W.heap.size W W') (x : Fld) (hn : l.find? q = some x) :
    Calls Try.prog 55 #[.slice A l.length c, .func (.func 56) #[] #[.pointer (some p), .pointer (some p')]] w fun e W => ∃ A5 c5, e = .returned (.tuple #[.agg #[.string x.f0, .int .i64 x.f1.f0, .string x.f1.f1, .string x.f1.f2, .int .i64 x.f1.f3, .slice A5 x.f1.f4.length c5], .bool true]) ∧ x.f1.f4.length ≤ c5 ∧ Kd.C kTy W A5 x.f1.f4.length x.f1.f4 ∧ Below w.heap.size w W := by
  have hb0 := bel_alloc (Below.refl w.heap.size w) (.cells #[.string ⟨#[]⟩, .int .i64 0, .string ⟨#[]⟩, .string ⟨#[]⟩, .int .i64 0, .slice none 0 0] 83)
  have HI := Lib.hid (indexFld_any q l A c p p' _ (Kd.C_below hC hb0) hc (fun x hx A5 c5 W hb => hF x hx A5 c5 W (hb0.trans (hb.mono (by simp)))))
  obtain ⟨k, hk, hx⟩ := idxF_some q l 0 x hn
  rw [hk, Nat.zero_add] at HI
  have hlt : k < l.length := (List.getElem?_eq_some_iff.1 hx).1
  have HB0 := Lib.hid hb0
  have HR0 := Lib.hid (blk_new w (.cells #[.string ⟨#[]⟩, .int .i64 0, .string ⟨#[]⟩, .string ⟨#[]⟩, .int .i64 0, .slice none 0 0] 83))
  obtain ⟨ad, A5, c5, hA1, x0, x1, x2, x3, x4, x5, g0, g1⟩ := at_T83 hC (k : Int) (by omega) (by omega)
  subst hA1
  rw [show rd_T83 l (k : Int) = x from by unfold rd_T83; rw [Int.toNat_natCast, List.getD_eq_getElem?_getD, hx]; rfl] at x0 x1 x2 x3 x4 x5 g0 g1
  rw [Int.toNat_natCast] at x0 x1 x2 x3 x4 x5
  have HXS := Lib.hid (And.intro x0 (And.intro x1 (And.intro x2 (And.intro x3 (And.intro x4 x5)))))
  have HG := Lib.hid (And.intro g0 g1)
  have HLM := Lib.hid hC.2.1
  clear hF hC hn hb0 hk hx x0 x1 x2 x3 x4 x5 g0 g1
  go_enter Try.func55, Try.ntmps55
  go_wp2_with (fail)
  refine HI.out.mono ?_
  rintro e w1 ⟨rfl, hb⟩
  have HBW := Lib.hid (bel_trans HB0.out hb)
  have HR := Lib.hid (blk_later hb HR0.out)
  clear hb
  obtain ⟨y0, y1, y2, y3, y4, y5⟩ := HXS.out
  have x0 := cell_later HBW.out y0
  have x1 := cell_later HBW.out y1
  have x2 := cell_later HBW.out y2
  have x3 := cell_later HBW.out y3
  have x4 := cell_later HBW.out y4
  have x5 := cell_later HBW.out y5
  have z0 := (blk_cell HR.out 0).trans rfl
  have z1 := (blk_cell HR.out 1).trans rfl
  have z2 := (blk_cell HR.out 2).trans rfl
  have z3 := (blk_cell HR.out 3).trans rfl
  have z4 := (blk_cell HR.out 4).trans rfl
  have z5 := (blk_cell HR.out 5).trans rfl
  have f0 := blk_free HR.out 0
  have f1 := blk_free HR.out 1
  have f2 := blk_free HR.out 2
  have f3 := blk_free HR.out 3
  have f4 := blk_free HR.out 4
  have f5 := blk_free HR.out 5
  have i0 : 0 ≤ (k : Int) := by omega
  have i1 : (k : Int) < l.length := by omega
  have i2 : ¬ (k : Int) < 0 := by omega
  clear y0 y1 y2 y3 y4 y5
  go_wp2_with (fail)
  have hE := blk_set (blk_set (blk_set (blk_set (blk_set (blk_set (HR.out) 0 (.string x.f0)) 1 (.int .i64 x.f1.f0)) 2 (.string x.f1.f1)) 3 (.string x.f1.f2)) 4 (.int .i64 x.f1.f3)) 5 (.slice A5 x.f1.f4.length c5)
  have hfin := Below.setCell (Below.setCell (Below.setCell (Below.setCell (Below.setCell (Below.setCell (HBW.out) (p := ⟨w.heap.size, 0, none⟩) (Nat.le_refl _) (.string x.f0)) (p := ⟨w.heap.size, 1, none⟩) (Nat.le_refl _) (.int .i64 x.f1.f0)) (p := ⟨w.heap.size, 2, none⟩) (Nat.le_refl _) (.string x.f1.f1)) (p := ⟨w.heap.size, 3, none⟩) (Nat.le_refl _) (.string x.f1.f2)) (p := ⟨w.heap.size, 4, none⟩) (Nat.le_refl _) (.int .i64 x.f1.f3)) (p := ⟨w.heap.size, 5, none⟩) (Nat.le_refl _) (.slice A5 x.f1.f4.length c5)
  refine cell_tmp_end rfl (hE.trans rfl) Try.underlying83 sizeFld' rfl rfl rfl ⟨A5, c5, rfl, HG.out.1, ?_, hfin⟩
  · exact Kd.C_below (HG.out.2) hfin
theorem sizeMth' : (Try.prog.info? 50).map (·.size) = some 7 := by kernel_rfl
set_option maxRecDepth 100000 in
set_option maxHeartbeats 2000000 in
theorem indexMth_any (q : Mth → Bool) (l : List Mth) (A : Option Addr) (c : Nat) (p : Addr) (w : World) (hC : Kd.C kMth w A l.length l) (hc : l.length ≤ c)
    (hF : ∀ x ∈ l, ∀ (A1 : Option Addr) (c1 : Nat) (A6 : Option Addr) (c6 : Nat) (W : World), Below w.heap.size w W → Calls Try.prog 60 #[.agg #[.string x.f0, .slice A1 x.f1.length c1, .int .i64 x.f2.f0, .string x.f2.f1, .string x.f2.f2, .int .i64 x.f2.f3, .slice A6 x.f2.f4.length c6], .pointer (some p)] W fun e W' => e = .returned (.bool (q x)) ∧ Below W.heap.size W W') :
    Calls Try.prog 78 #[.slice A l.length c, .func (.func 60) #[] #[.pointer (some p)]] w fun e w' => e = .returned (.int .i64 (idxF q 0 l)) ∧ Below w.heap.size w w' := by
  have HF := Lib.hid hF
  have hlm : l.length ≤ 9223372036854775807 := hC.2.1
  have HC := Lib.hid hC
  have HBW := Lib.hid (Below.refl w.heap.size w)
  clear hF hC
  go_enter Try.func78, Try.ntmps78
  go_wp2_with (fail)
  go_loopg [8] (l.length + 1) (fun kq v8 W => ∃ k : Nat, v8 = .int .i64 k ∧ Hid (kq + k = l.length + 1 ∧ k ≤ l.length ∧ idxF q 0 l = idxF q k (l.drop k)) ∧ Hid (Below w.heap.size w W))
  case atStart => exact ⟨0, rfl, Lib.hid ⟨rfl, Nat.zero_le _, rfl⟩, HBW⟩
  case round =>
    clear HBW
    obtain ⟨k, rfl, HK, HBW⟩ := hrel
    by_cases hlt : k < l.length
    · obtain ⟨x, hx⟩ : ∃ x, l[k]? = some x := ⟨_, List.getElem?_eq_getElem hlt⟩
      obtain ⟨ad, A1, c1, A6, c6, hA1, x0, x1, x2, x3, x4, x5, x6, g0, g1, g2, g3⟩ := at_T50 (Kd.C_below HC.out HBW.out) (k : Int) (by omega) (by omega)
      subst hA1
      rw [show rd_T50 l (k : Int) = x from by unfold rd_T50; rw [Int.toNat_natCast, List.getD_eq_getElem?_getD, hx]; rfl] at x0 x1 x2 x3 x4 x5 x6 g0 g1 g2 g3
      rw [Int.toNat_natCast] at x0 x1 x2 x3 x4 x5 x6
      have HCALL := Lib.hid (HF.out x (List.mem_of_getElem? hx) A1 c1 A6 c6 wr HBW.out)
      have HD := Lib.hid (HK.out.2.2.trans (idxF_drop q l k x hx))
      have i0 : 0 ≤ (k : Int) := by omega
      have i1 : (k : Int) < l.length := by omega
      have HLT := Lib.hid hlt
      clear hx g0 g1 g2 g3
      cases hq : q x with
      | true =>
        rw [hq] at HCALL HD
        go_wp2_with (fail)
        refine HCALL.out.mono ?_
        rintro e w5 ⟨rfl, hb⟩
        replace HBW := Lib.hid (bel_trans HBW.out hb)
        clear hb hq
        go_wp2_with (fail)
        go_ret
        exact ⟨by rw [HD.out]; rfl, HBW.out⟩
      | false =>
        rw [hq] at HCALL HD
        go_wp2_with (fail)
        refine HCALL.out.mono ?_
        rintro e w5 ⟨rfl, hb⟩
        replace HBW := Lib.hid (bel_trans HBW.out hb)
        clear hb hq
        go_wp2_with (fail)
        go_roundg (gk - 1)
        case measure => have := HK.out.1; have := HK.out.2.1; omega
        case rel => exact ⟨k + 1, by go_num, Lib.hid ⟨by have := HK.out.1; have := HLT.out; omega, HLT.out, HD.out⟩, HBW⟩
    · obtain rfl : k = l.length := by have := HK.out.2.1; omega
      have HE := Lib.hid (show idxF q 0 l = -1 from by have := HK.out.2.2; rw [List.drop_length] at this; exact this)
      go_wp2_with (fail)
      go_ret
      exact ⟨by rw [HE.out]; rfl, HBW.out⟩
set_option maxRecDepth 100000 in
set_option maxHeartbeats 2000000 in
theorem firstMth_none (q : Mth → Bool) (l : List Mth) (A : Option Addr) (c : Nat) (p : Addr) (w : World) (hC : Kd.C kMth w A l.length l) (hc : l.length ≤ c)
    (hF : ∀ x ∈ l, ∀ (A1 : Option Addr) (c1 : Nat) (A6 : Option Addr) (c6 : Nat) (W : World), Below w.heap.size w W → Calls Try.prog 60 #[.agg #[.string x.f0, .slice A1 x.f1.length c1, .int .i64 x.f2.f0, .string x.f2.f1, .string x.f2.f2, .int .i64 x.f2.f3, .slice A6 x.f2.f4.length c6], .pointer (some p)] W fun e W' => e = .returned (.bool (q x)) ∧ Below W.heap.size W W') (hn : l.find? q = none) :
    Calls Try.prog 59 #[.slice A l.length c, .func (.func 60) #[] #[.pointer (some p)]] w fun e w' => e = .returned (.tuple #[.agg #[.string ⟨#[]⟩, .slice none 0 0, .int .i64 0, .string ⟨#[]⟩, .string ⟨#[]⟩, .int .i64 0, .slice none 0 0], .bool false]) ∧ Below w.heap.size w w' := by
  have hb0 := bel_alloc (Below.refl w.heap.size w) (.cells #[.string ⟨#[]⟩, .slice none 0 0, .int .i64 0, .string ⟨#[]⟩, .string ⟨#[]⟩, .int .i64 0, .slice none 0 0] 50)
  have HI := Lib.hid (indexMth_any q l A c p _ (Kd.C_below hC hb0) hc (fun x hx A1 c1 A6 c6 W hb => hF x hx A1 c1 A6 c6 W (hb0.trans (hb.mono (by simp)))))
  rw [idxF_none q l 0 hn] at HI
  have HB0 := Lib.hid hb0
  have HR0 := Lib.hid (blk_new w (.cells #[.string ⟨#[]⟩, .slice none 0 0, .int .i64 0, .string ⟨#[]⟩, .string ⟨#[]⟩, .int .i64 0, .slice none 0 0] 50))
  clear hF hC hn hb0
  go_enter Try.func59, Try.ntmps59
  go_wp2_with (fail)
  refine HI.out.mono ?_
  rintro e w1 ⟨rfl, hb⟩
  have HBW := Lib.hid (bel_trans HB0.out hb)
  have HR := Lib.hid (blk_later hb HR0.out)
  clear hb
  have z0 := (blk_cell HR.out 0).trans rfl
  have z1 := (blk_cell HR.out 1).trans rfl
  have z2 := (blk_cell HR.out 2).trans rfl
  have z3 := (blk_cell HR.out 3).trans rfl
  have z4 := (blk_cell HR.out 4).trans rfl
  have z5 := (blk_cell HR.out 5).trans rfl
  have z6 := (blk_cell HR.out 6).trans rfl
  have f0 := blk_free HR.out 0
  have f1 := blk_free HR.out 1
  have f2 := blk_free HR.out 2
  have f3 := blk_free HR.out 3
  have f4 := blk_free HR.out 4
  have f5 := blk_free HR.out 5
  have f6 := blk_free HR.out 6
  go_wp2_with (fail)
  have hE := blk_set (blk_set (blk_set (blk_set (blk_set (blk_set (blk_set (HR.out) 0 (.string ⟨#[]⟩)) 1 (.slice none 0 0)) 2 (.int .i64 0)) 3 (.string ⟨#[]⟩)) 4 (.string ⟨#[]⟩)) 5 (.int .i64 0)) 6 (.slice none 0 0)
  refine cell_tmp_end rfl (hE.trans rfl) Try.underlying50 sizeMth' rfl rfl rfl ⟨rfl, ?_⟩
  exact Below.setCell (Below.setCell (Below.setCell (Below.setCell (Below.setCell (Below.setCell (Below.setCell (HBW.out) (Nat.le_refl _) _) (Nat.le_refl _) _) (Nat.le_refl _) _) (Nat.le_refl _) _) (Nat.le_refl _) _) (Nat.le_refl _) _) (Nat.le_refl _) _
set_option maxRecDepth 100000 in
set_option maxHeartbeats 2000000 in
theorem firstMth_some (q : Mth → Bool) (l : List Mth) (A : Option Addr) (c : Nat) (p : Addr) (w : World) (hC : Kd.C kMth w A l.length l) (hc : l.length ≤ c)
    (hF : ∀ x ∈ l, ∀ (A1 : Option Addr) (c1 : Nat) (A6 : Option Addr) (c6 : Nat) (W : World), Below w.heap.size w W → Calls Try.prog 60 #[.agg #[.string x.f0, .slice A1 x.f1.length c1, .int .i64 x.f2.f0, .string x.f2.f1, .string x.f2.f2, .int .i64 x.f2.f3, .slice A6 x.f2.f4.length c6], .pointer (some p)] W fun e W' => e = .returned (.bool (q x)) ∧ Below W.heap.size W W') (x : Mth) (hn : l.find? q = some x) :
    Calls Try.prog 59 #[.slice A l.length c, .func (.func 60) #[] #[.pointer (some p)]] w fun e W => ∃ A1 c1 A6 c6, e = .returned (.tuple #[.agg #[.string x.f0, .slice A1 x.f1.length c1, .int .i64 x.f2.f0, .string x.f2.f1, .string x.f2.f2, .int .i64 x.f2.f3, .slice A6 x.f2.f4.length c6], .bool true]) ∧ x.f1.length ≤ c1 ∧ Kd.C kTy W A1 x.f1.length x.f1 ∧ x.f2.f4.length ≤ c6 ∧ Kd.C kTy W A6 x.f2.f4.length x.f2.f4 ∧ Below w.heap.size w W := by
  have hb0 := bel_alloc (Below.refl w.heap.size w) (.cells #[.string ⟨#[]⟩, .slice none 0 0, .int .i64 0, .string ⟨#[]⟩, .string ⟨#[]⟩, .int .i64 0, .slice none 0 0] 50)
  have HI := Lib.hid (indexMth_any q l A c p _ (Kd.C_below hC hb0) hc (fun x hx A1 c1 A6 c6 W hb => hF x hx A1 c1 A6 c6 W (hb0.trans (hb.mono (by simp)))))
  obtain ⟨k, hk, hx⟩ := idxF_some q l 0 x hn
  rw [hk, Nat.zero_add] at HI
  have hlt : k < l.length := (List.getElem?_eq_some_iff.1 hx).1
  have HB0 := Lib.hid hb0
  have HR0 := Lib.hid (blk_new w (.cells #[.string ⟨#[]⟩, .slice none 0 0, .int .i64 0, .string ⟨#[]⟩, .string ⟨#[]⟩, .int .i64 0, .slice none 0 0] 50))
  obtain ⟨ad, A1, c1, A6, c6, hA1, x0, x1, x2, x3, x4, x5, x6, g0, g1, g2, g3⟩ := at_T50 hC (k : Int) (by omega) (by omega)
  subst hA1
  rw [show rd_T50 l (k : Int) = x from by unfold rd_T50; rw [Int.toNat_natCast, List.getD_eq_getElem?_getD, hx]; rfl] at x0 x1 x2 x3 x4 x5 x6 g0 g1 g2 g3
  rw [Int.toNat_natCast] at x0 x1 x2 x3 x4 x5 x6
  have HXS := Lib.hid (And.intro x0 (And.intro x1 (And.intro x2 (And.intro x3 (And.intro x4 (And.intro x5 x6))))))
  have HG := Lib.hid (And.intro g0 (And.intro g1 (And.intro g2 g3)))
  have HLM := Lib.hid hC.2.1
  clear hF hC hn hb0 hk hx x0 x1 x2 x3 x4 x5 x6 g0 g1 g2 g3
  go_enter Try.func59, Try.ntmps59
  go_wp2_with (fail)
  refine HI.out.mono ?_
  rintro e w1 ⟨rfl, hb⟩
  have HBW := Lib.hid (bel_trans HB0.out hb)
  have HR := Lib.hid (blk_later hb HR0.out)
  clear hb
  obtain ⟨y0, y1, y2, y3, y4, y5, y6⟩ := HXS.out
  have x0 := cell_later HBW.out y0
  have x1 := cell_later HBW.out y1
  have x2 := cell_later HBW.out y2
  have x3 := cell_later HBW.out y3
  have x4 := cell_later HBW.out y4
  have x5 := cell_later HBW.out y5
  have x6 := cell_later HBW.out y6
  have z0 := (blk_cell HR.out 0).trans rfl
  have z1 := (blk_cell HR.out 1).trans rfl
  have z2 := (blk_cell HR.out 2).trans rfl
  have z3 := (blk_cell HR.out 3).trans rfl
  have z4 := (blk_cell HR.out 4).trans rfl
  have z5 := (blk_cell HR.out 5).trans rfl
  have z6 := (blk_cell HR.out 6).trans rfl
  have f0 := blk_free HR.out 0
  have f1 := blk_free HR.out 1
  have f2 := blk_free HR.out 2
  have f3 := blk_free HR.out 3
  have f4 := blk_free HR.out 4
  have f5 := blk_free HR.out 5
  have f6 := blk_free HR.out 6
  have i0 : 0 ≤ (k : Int) := by omega
  have i1 : (k : Int) < l.length := by omega
  have i2 : ¬ (k : Int) < 0 := by omega
  clear y0 y1 y2 y3 y4 y5 y6
  go_wp2_with (fail)
  have hE := blk_set (blk_set (blk_set (blk_set (blk_set (blk_set (blk_set (HR.out) 0 (.string x.f0)) 1 (.slice A1 x.f1.length c1)) 2 (.int .i64 x.f2.f0)) 3 (.string x.f2.f1)) 4 (.string x.f2.f2)) 5 (.int .i64 x.f2.f3)) 6 (.slice A6 x.f2.f4.length c6)
  have hfin := Below.setCell (Below.setCell (Below.setCell (Below.setCell (Below.setCell (Below.setCell (Below.setCell (HBW.out) (p := ⟨w.heap.size, 0, none⟩) (Nat.le_refl _) (.string x.f0)) (p := ⟨w.heap.size, 1, none⟩) (Nat.le_refl _) (.slice A1 x.f1.length c1)) (p := ⟨w.heap.size, 2, none⟩) (Nat.le_refl _) (.int .i64 x.f2.f0)) (p := ⟨w.heap.size, 3, none⟩) (Nat.le_refl _) (.string x.f2.f1)) (p := ⟨w.heap.size, 4, none⟩) (Nat.le_refl _) (.string x.f2.f2)) (p := ⟨w.heap.size, 5, none⟩) (Nat.le_refl _) (.int .i64 x.f2.f3)) (p := ⟨w.heap.size, 6, none⟩) (Nat.le_refl _) (.slice A6 x.f2.f4.length c6)
  refine cell_tmp_end rfl (hE.trans rfl) Try.underlying50 sizeMth' rfl rfl rfl ⟨A1, c1, A6, c6, rfl, HG.out.1, ?_, HG.out.2.2.1, ?_, hfin⟩
  · exact Kd.C_below (HG.out.2.1) hfin
  · exact Kd.C_below (HG.out.2.2.2) hfin
end Go.Proofs.Ytbhagjhhgmmcgaa
namespace Go.Proofs.Ytbhagjhhgmmcgaa
open Go.RowKit PRef Go.Proofs.YtbhagjhhgmmcgaaW.PrintWords
set_option linter.unusedVariables false

theorem find1_any {t0 : Int} {t1 t2 : ByteArray} {t3 : Int} {A : Option Addr} {n c g : Nat} {W : World} (hg : W.heap[g]? = some (.cells #[.int .i64 t0, .string t1, .string t2, .int .i64 t3, .slice A n c] 29 (0, 0))) (s : ByteArray) (A1 A2 : Option Addr) (n1 c1 n2 c2 : Nat) :
    Calls Try.prog 50 #[.agg #[.string s, .slice A1 n1 c1, .slice A2 n2 c2], .pointer (some ⟨g, 0, none⟩)] W fun e W' => e = .returned (.bool (decide (s = t1 ∧ t0 = 4))) ∧ Below W.heap.size W W' := by
  have hg2 := blk_alloc hg (.cells #[.string s, .slice A1 n1 c1, .slice A2 n2 c2] 74)
  have x0 := (blk_cell hg2 0).trans rfl
  have x1 := (blk_cell hg2 1).trans rfl
  have HB := Lib.hid (bel_alloc (Below.refl W.heap.size W) (.cells #[.string s, .slice A1 n1 c1, .slice A2 n2 c2] 74))
  clear hg hg2
  by_cases hs : s = t1
  · subst hs
    by_cases h4 : t0 = 4
    · have e4 : (t0 == 4) = true := by simp [h4]
      rw [show decide (s = s ∧ t0 = 4) = true by simp [h4]]
      clear h4
      go_enter Try.func50, Try.ntmps50
      go_wp2_with (fail)
      go_ret
      exact ⟨rfl, HB.out⟩
    · have e4 : (t0 == 4) = false := beq_eq_false_iff_ne.2 h4
      rw [show decide (s = s ∧ t0 = 4) = false by simp [h4]]
      go_enter Try.func50, Try.ntmps50
      go_wp2_with (fail)
      go_ret
      exact ⟨rfl, HB.out⟩
  · have s0 := ba_ne hs
    have s1 := ba_neP hs
    rw [show decide (s = t1 ∧ t0 = 4) = false by simp [hs]]
    go_enter Try.func50, Try.ntmps50
    go_wp2_with (fail)
    go_ret
    exact ⟨rfl, HB.out⟩
theorem find2_any {t0 : Int} {t1 t2 : ByteArray} {t3 : Int} {A : Option Addr} {n c g : Nat} {W : World} (hg : W.heap[g]? = some (.cells #[.int .i64 t0, .string t1, .string t2, .int .i64 t3, .slice A n c] 29 (0, 0))) (s : ByteArray) (b : Bool) (A1 A2 : Option Addr) (n1 c1 n2 c2 : Nat) :
    Calls Try.prog 52 #[.agg #[.string s, .bool b, .slice A1 n1 c1, .slice A2 n2 c2], .pointer (some ⟨g, 0, none⟩)] W fun e W' => e = .returned (.bool (decide (s = t2))) ∧ Below W.heap.size W W' := by
  have hg2 := blk_alloc hg (.cells #[.string s, .bool b, .slice A1 n1 c1, .slice A2 n2 c2] 35)
  have x2 := (blk_cell hg2 2).trans rfl
  have HB := Lib.hid (bel_alloc (Below.refl W.heap.size W) (.cells #[.string s, .bool b, .slice A1 n1 c1, .slice A2 n2 c2] 35))
  clear hg hg2
  by_cases hs : s = t2
  · subst hs
    rw [show decide (s = s) = true by simp]
    go_enter Try.func52, Try.ntmps52
    go_wp2_with (fail)
    go_ret
    exact ⟨rfl, HB.out⟩
  · have s0 := ba_ne hs
    have s1 := ba_neP hs
    rw [show decide (s = t2) = false by simp [hs]]
    go_enter Try.func52, Try.ntmps52
    go_wp2_with (fail)
    go_ret
    exact ⟨rfl, HB.out⟩
theorem field1_any {nm : ByteArray} {d0 : ByteArray} {d1 : Bool} {v2 v3 : Value} {g g' : Nat} {W : World} (hg : W.heap[g]? = some (.cells #[.string nm] 9 (0, 0))) (hg' : W.heap[g']? = some (.cells #[.string d0, .bool d1, v2, v3] 35 (0, 0))) (s : ByteArray) (i1 : Int) (s2 s3 : ByteArray) (i4 : Int) (A5 : Option Addr) (n5 c5 : Nat) :
    Calls Try.prog 56 #[.agg #[.string s, .int .i64 i1, .string s2, .string s3, .int .i64 i4, .slice A5 n5 c5], .pointer (some ⟨g, 0, none⟩), .pointer (some ⟨g', 0, none⟩)] W fun e W' => e = .returned (.bool (decide (s = nm) && d1)) ∧ Below W.heap.size W W' := by
  have hg2 := blk_alloc hg (.cells #[.string s, .int .i64 i1, .string s2, .string s3, .int .i64 i4, .slice A5 n5 c5] 83)
  have hg3 := blk_alloc hg' (.cells #[.string s, .int .i64 i1, .string s2, .string s3, .int .i64 i4, .slice A5 n5 c5] 83)
  have x0 := (blk_cell hg2 0).trans rfl
  have y1 := (blk_cell hg3 1).trans rfl
  have HB := Lib.hid (bel_alloc (Below.refl W.heap.size W) (.cells #[.string s, .int .i64 i1, .string s2, .string s3, .int .i64 i4, .slice A5 n5 c5] 83))
  clear hg hg2 hg' hg3
  by_cases hs : s = nm
  · subst hs
    rw [show (decide (s = s) && d1) = d1 by simp]
    go_enter Try.func56, Try.ntmps56
    go_wp2_with (fail)
    go_ret
    exact ⟨rfl, HB.out⟩
  · have s0 := ba_ne hs
    have s1 := ba_neP hs
    rw [show (decide (s = nm) && d1) = false by simp [hs]]
    go_enter Try.func56, Try.ntmps56
    go_wp2_with (fail)
    go_ret
    exact ⟨rfl, HB.out⟩
theorem meets1_any {nm : ByteArray} {v1 v2 v3 v4 v5 v6 : Value} {g : Nat} {W : World} (hg : W.heap[g]? = some (.cells #[.string nm, v1, v2, v3, v4, v5, v6] 50 (0, 0))) (s : ByteArray) (A1 : Option Addr) (n1 c1 : Nat) (i2 : Int) (s3 s4 : ByteArray) (i5 : Int) (A6 : Option Addr) (n6 c6 : Nat) :
    Calls Try.prog 60 #[.agg #[.string s, .slice A1 n1 c1, .int .i64 i2, .string s3, .string s4, .int .i64 i5, .slice A6 n6 c6], .pointer (some ⟨g, 0, none⟩)] W fun e W' => e = .returned (.bool (decide (s = nm))) ∧ Below W.heap.size W W' := by
  have hg2 := blk_alloc hg (.cells #[.string s, .slice A1 n1 c1, .int .i64 i2, .string s3, .string s4, .int .i64 i5, .slice A6 n6 c6] 50)
  have x0 := (blk_cell hg2 0).trans rfl
  have HB := Lib.hid (bel_alloc (Below.refl W.heap.size W) (.cells #[.string s, .slice A1 n1 c1, .int .i64 i2, .string s3, .string s4, .int .i64 i5, .slice A6 n6 c6] 50))
  clear hg hg2
  by_cases hs : s = nm
  · subst hs
    rw [show decide (s = s) = true by simp]
    go_enter Try.func60, Try.ntmps60
    go_wp2_with (fail)
    go_ret
    exact ⟨rfl, HB.out⟩
  · have s0 := ba_ne hs
    have s1 := ba_neP hs
    rw [show decide (s = nm) = false by simp [hs]]
    go_enter Try.func60, Try.ntmps60
    go_wp2_with (fail)
    go_ret
    exact ⟨rfl, HB.out⟩

def zDcl : Dcl := ⟨⟨#[]⟩, false, [], []⟩
/-- What a named type is declared to be. -/
def findP (W : List Ifc) (t : Ty) : Option Dcl := (W.find? fun p => decide (p.f0 = t.f1 ∧ t.f0 = 4)).bind fun p => p.f1.find? fun d => decide (d.f0 = t.f2)
/-- Where a scope's slices lie. -/
structure ScA where
  AW : Option Addr
  cW : Nat
  AI : Option Addr
  nI : Nat
  cI : Nat
  AN : Option Addr
  nN : Nat
  cN : Nat
  AB : Option Addr
  cB : Nat
  AV : Option Addr
  nV : Nat
  cV : Nat
def scV (a : ScA) (W : List Ifc) (B : List Ty) : Value := .agg #[.slice a.AW W.length a.cW, .slice a.AI a.nI a.cI, .slice a.AN a.nN a.cN, .slice a.AB B.length a.cB, .slice a.AV a.nV a.cV]
structure ScC (a : ScA) (W : List Ifc) (B : List Ty) (w : World) : Prop where
  w_ : Kd.C kIfc w a.AW W.length W
  wc : W.length ≤ a.cW
  b_ : Kd.C kTy w a.AB B.length B
  bc : B.length ≤ a.cB
theorem ScC.later {a : ScA} {W : List Ifc} {B : List Ty} {w w' : World} (h : ScC a W B w) (hb : Below w.heap.size w w') : ScC a W B w' := ⟨Kd.C_below h.w_ hb, h.wc, Kd.C_below h.b_ hb, h.bc⟩
/-- Each declared type can be copied. -/
def WOk (W : List Ifc) : Prop := ∀ p ∈ W, ∀ d ∈ p.f1, DclOk d
theorem zDcl_ok : DclOk zDcl := ⟨by decide, by decide, by simp [zDcl], by simp [zDcl]⟩

set_option maxRecDepth 100000 in
set_option maxHeartbeats 4000000 in
theorem find_any (a : ScA) (W : List Ifc) (B : List Ty) (t : Ty) (A : Option Addr) (c : Nat) (w : World) (hW : ScC a W B w) (ok : WOk W) :
    Calls Try.prog 16 #[scV a W B, tyV t A c] w fun e w' => ∃ A' c' B' d', e = .returned (.tuple #[dclV ((findP W t).getD zDcl) A' c' B' d', .bool (findP W t).isSome]) ∧ ((findP W t).getD zDcl).f2.length ≤ c' ∧ Kd.F kFld w' (fun b => w.heap.size ≤ b) A' ((findP W t).getD zDcl).f2.length ((findP W t).getD zDcl).f2 ∧ ((findP W t).getD zDcl).f3.length ≤ d' ∧ Kd.F kMth w' (fun b => w.heap.size ≤ b) B' ((findP W t).getD zDcl).f3.length ((findP W t).getD zDcl).f3 ∧ Below w.heap.size w w' := by
  have HW := Lib.hid (hW.later (bel_alloc (bel_alloc (bel_alloc (Below.refl w.heap.size w) (.cells #[.slice a.AW W.length a.cW, .slice a.AI a.nI a.cI, .slice a.AN a.nN a.cN, .slice a.AB B.length a.cB, .slice a.AV a.nV a.cV] 27)) (.cells #[.int .i64 t.f0, .string t.f1, .string t.f2, .int .i64 t.f3, .slice A t.f4.length c] 29)) (.cells #[.string ⟨#[]⟩, .bool false, .slice none 0 0, .slice none 0 0] 35)))
  have HB := Lib.hid (bel_alloc (bel_alloc (bel_alloc (Below.refl w.heap.size w) (.cells #[.slice a.AW W.length a.cW, .slice a.AI a.nI a.cI, .slice a.AN a.nN a.cN, .slice a.AB B.length a.cB, .slice a.AV a.nV a.cV] 27)) (.cells #[.int .i64 t.f0, .string t.f1, .string t.f2, .int .i64 t.f3, .slice A t.f4.length c] 29)) (.cells #[.string ⟨#[]⟩, .bool false, .slice none 0 0, .slice none 0 0] 35))
  have HT := Lib.hid (blk_alloc (show ((w.alloc (.cells #[.slice a.AW W.length a.cW, .slice a.AI a.nI a.cI, .slice a.AN a.nN a.cN, .slice a.AB B.length a.cB, .slice a.AV a.nV a.cV] 27)).alloc (.cells #[.int .i64 t.f0, .string t.f1, .string t.f2, .int .i64 t.f3, .slice A t.f4.length c] 29)).heap[w.heap.size + 1]? = _ by simpa using blk_new (w.alloc (.cells #[.slice a.AW W.length a.cW, .slice a.AI a.nI a.cI, .slice a.AN a.nN a.cN, .slice a.AB B.length a.cB, .slice a.AV a.nV a.cV] 27)) (.cells #[.int .i64 t.f0, .string t.f1, .string t.f2, .int .i64 t.f3, .slice A t.f4.length c] 29)) (.cells #[.string ⟨#[]⟩, .bool false, .slice none 0 0, .slice none 0 0] 35))
  have HR := Lib.hid (show (((w.alloc (.cells #[.slice a.AW W.length a.cW, .slice a.AI a.nI a.cI, .slice a.AN a.nN a.cN, .slice a.AB B.length a.cB, .slice a.AV a.nV a.cV] 27)).alloc (.cells #[.int .i64 t.f0, .string t.f1, .string t.f2, .int .i64 t.f3, .slice A t.f4.length c] 29)).alloc (.cells #[.string ⟨#[]⟩, .bool false, .slice none 0 0, .slice none 0 0] 35)).heap[w.heap.size + 1 + 1]? = some (.cells #[.string ⟨#[]⟩, .bool false, .slice none 0 0, .slice none 0 0] 35 (0, 0)) by have h := blk_new ((w.alloc (.cells #[.slice a.AW W.length a.cW, .slice a.AI a.nI a.cI, .slice a.AN a.nN a.cN, .slice a.AB B.length a.cB, .slice a.AV a.nV a.cV] 27)).alloc (.cells #[.int .i64 t.f0, .string t.f1, .string t.f2, .int .i64 t.f3, .slice A t.f4.length c] 29)) (.cells #[.string ⟨#[]⟩, .bool false, .slice none 0 0, .slice none 0 0] 35); simp only [World.size_alloc] at h; exact h)
  have HOK := Lib.hid ok
  clear hW ok
  simp only [scV, tyV]
  cases h1 : W.find? (fun p => decide (p.f0 = t.f1 ∧ t.f0 = 4)) with
  | none =>
    have hP : findP W t = none := by unfold findP; rw [h1]; rfl
    rw [hP]
    simp only [Option.getD_none, Option.isSome_none]
    clear hP
    have HC1 := Lib.hid (firstIfc_none (fun p => decide (p.f0 = t.f1 ∧ t.f0 = 4)) W a.AW a.cW ⟨w.heap.size + 1, 0, none⟩ _ HW.out.w_ HW.out.wc (fun x hx A1 c1 A2 c2 W' hb => find1_any (blk_later hb HT.out) x.f0 A1 A2 x.f1.length c1 x.f2.length c2) h1)
    clear h1
    go_enter Try.func16, Try.ntmps16
    go_wp2_with (fail)
    refine HC1.out.mono ?_
    rintro e w1 ⟨rfl, hb⟩
    replace HB := Lib.hid (bel_alloc (bel_trans HB.out hb) (.cells #[.string ⟨#[]⟩, .slice none 0 0, .slice none 0 0] 74))
    replace HT := Lib.hid (blk_alloc (blk_later hb HT.out) (.cells #[.string ⟨#[]⟩, .slice none 0 0, .slice none 0 0] 74))
    replace HR := Lib.hid (blk_alloc (blk_later hb HR.out) (.cells #[.string ⟨#[]⟩, .slice none 0 0, .slice none 0 0] 74))
    have i0 := (blk_cell (blk_new w1 (.cells #[.string ⟨#[]⟩, .slice none 0 0, .slice none 0 0] 74)) 1).trans rfl
    have HL := Lib.hid (show Kd.C kDcl (w1.alloc (.cells #[.string ⟨#[]⟩, .slice none 0 0, .slice none 0 0] 74)) none ([] : List Dcl).length [] from ⟨rfl, by simp, fun h => by simp at h⟩)
    have HLC := Lib.hid (show ([] : List Dcl).length ≤ 0 from Nat.le_refl _)
    clear hb
    have HC2 := Lib.hid (firstDcl_none (fun d => decide (d.f0 = t.f2)) ([] : List Dcl) none 0 ⟨w.heap.size + 1, 0, none⟩ _ HL.out HLC.out (fun x hx A2 c2 A3 c3 W' hb => find2_any (blk_later hb HT.out) x.f0 x.f1 A2 A3 x.f2.length c2 x.f3.length c3) rfl)
    go_wp2_with (fail)
    refine HC2.out.mono ?_
    rintro e w2 ⟨rfl, hb⟩
    replace HB := Lib.hid (bel_alloc (bel_trans HB.out hb) (.cells #[.string ⟨#[]⟩, .bool false, .slice none 0 0, .slice none 0 0] 35))
    replace HT := Lib.hid (blk_alloc (blk_later hb HT.out) (.cells #[.string ⟨#[]⟩, .bool false, .slice none 0 0, .slice none 0 0] 35))
    replace HR := Lib.hid (blk_alloc (blk_later hb HR.out) (.cells #[.string ⟨#[]⟩, .bool false, .slice none 0 0, .slice none 0 0] 35))
    have d0 := (blk_cell (blk_new w2 (.cells #[.string ⟨#[]⟩, .bool false, .slice none 0 0, .slice none 0 0] 35)) 0).trans rfl
    have d1 := (blk_cell (blk_new w2 (.cells #[.string ⟨#[]⟩, .bool false, .slice none 0 0, .slice none 0 0] 35)) 1).trans rfl
    have d2 := (blk_cell (blk_new w2 (.cells #[.string ⟨#[]⟩, .bool false, .slice none 0 0, .slice none 0 0] 35)) 2).trans rfl
    have d3 := (blk_cell (blk_new w2 (.cells #[.string ⟨#[]⟩, .bool false, .slice none 0 0, .slice none 0 0] 35)) 3).trans rfl
    have HSL := Lib.hid (blk_lt HR.out)
    have HO := Lib.hid (ownDcl_any zDcl zDcl_ok none 0 none 0 (w2.alloc (.cells #[.string ⟨#[]⟩, .bool false, .slice none 0 0, .slice none 0 0] 35)) ⟨rfl, by simp [zDcl], fun h => by simp [zDcl] at h⟩ (Nat.zero_le _) ⟨rfl, by simp [zDcl], fun h => by simp [zDcl] at h⟩ (Nat.zero_le _))
    clear hb
    simp only [dclV, zDcl, List.length_nil] at HO
    go_wp2_with (fail)
    refine HO.out.mono ?_
    rintro e w3 ⟨A', c', B', d', rfl, k1, k2, k3, k4, hb⟩
    replace HB := Lib.hid (bel_trans HB.out hb)
    replace HR := Lib.hid (blk_later hb HR.out)
    have HK1 := Lib.hid k1
    have HK3 := Lib.hid k3
    have HS2 := HSL
    have HK2 := Lib.hid k2
    have HK4 := Lib.hid k4
    clear k1 k2 k3 k4 hb
    have r0 := (blk_cell HR.out 0).trans rfl
    have r1 := (blk_cell HR.out 1).trans rfl
    have r2 := (blk_cell HR.out 2).trans rfl
    have r3 := (blk_cell HR.out 3).trans rfl
    have f0 := blk_free HR.out 0
    have f1 := blk_free HR.out 1
    have f2 := blk_free HR.out 2
    have f3 := blk_free HR.out 3
    clear d0 d1 d2 d3 i0
    go_wp2_with (fail)
    have hE := blk_set (blk_set (blk_set (blk_set HR.out 0 (.string ⟨#[]⟩)) 1 (.bool false)) 2 (.slice A' 0 c')) 3 (.slice B' 0 d')
    have hfar : ∀ b, b ≠ w.heap.size + 1 + 1 → ((((w3.setCell ⟨w.heap.size + 1 + 1, 0, none⟩ (.string ⟨#[]⟩)).setCell ⟨w.heap.size + 1 + 1, 1, none⟩ (.bool false)).setCell ⟨w.heap.size + 1 + 1, 2, none⟩ (.slice A' 0 c')).setCell ⟨w.heap.size + 1 + 1, 3, none⟩ (.slice B' 0 d')).heap[b]? = w3.heap[b]? := by
      intro b hne
      rw [blk_far _ _ _ _ _ hne, blk_far _ _ _ _ _ hne, blk_far _ _ _ _ _ hne, blk_far _ _ _ _ _ hne]
    have hs2 := HS2.out
    refine cell_tmp_end rfl (hE.trans rfl) Try.underlying35 sizeDcl' rfl rfl rfl ⟨A', c', B', d', rfl, HK1.out, ?_, HK3.out, ?_, ?_⟩
    · exact Kd.F_mono (Kd.F_step HK2.out (fun b hb _ => hfar b (by omega))) (fun b hb => by omega)
    · exact Kd.F_mono (Kd.F_step HK4.out (fun b hb _ => hfar b (by omega))) (fun b hb => by omega)
    · iterate 4 refine Below.setCell ?_ (by simp only; omega) _
      exact HB.out
  | some p =>
    cases h2 : p.f1.find? (fun d => decide (d.f0 = t.f2)) with
    | none =>
      have hP : findP W t = none := by unfold findP; rw [h1]; exact h2
      rw [hP]
      simp only [Option.getD_none, Option.isSome_none]
      clear hP
      have HC1 := Lib.hid (firstIfc_some (fun p => decide (p.f0 = t.f1 ∧ t.f0 = 4)) W a.AW a.cW ⟨w.heap.size + 1, 0, none⟩ _ HW.out.w_ HW.out.wc (fun x hx A1 c1 A2 c2 W' hb => find1_any (blk_later hb HT.out) x.f0 A1 A2 x.f1.length c1 x.f2.length c2) p h1)
      have HPM := Lib.hid (List.mem_of_find?_eq_some h1)
      clear h1
      go_enter Try.func16, Try.ntmps16
      go_wp2_with (fail)
      refine HC1.out.mono ?_
      rintro e w1 ⟨A1, c1, A2, c2, rfl, k1, k2, k3, k4, hb⟩
      replace HB := Lib.hid (bel_alloc (bel_trans HB.out hb) (.cells #[.string p.f0, .slice A1 p.f1.length c1, .slice A2 p.f2.length c2] 74))
      replace HT := Lib.hid (blk_alloc (blk_later hb HT.out) (.cells #[.string p.f0, .slice A1 p.f1.length c1, .slice A2 p.f2.length c2] 74))
      replace HR := Lib.hid (blk_alloc (blk_later hb HR.out) (.cells #[.string p.f0, .slice A1 p.f1.length c1, .slice A2 p.f2.length c2] 74))
      have i0 := (blk_cell (blk_new w1 (.cells #[.string p.f0, .slice A1 p.f1.length c1, .slice A2 p.f2.length c2] 74)) 1).trans rfl
      have HL := Lib.hid (Kd.C_below k2 (bel_alloc (Below.refl _ _) (.cells #[.string p.f0, .slice A1 p.f1.length c1, .slice A2 p.f2.length c2] 74)))
      have HLC := Lib.hid k1
      clear hb k1 k2 k3 k4
      have HC2 := Lib.hid (firstDcl_none (fun d => decide (d.f0 = t.f2)) p.f1 A1 c1 ⟨w.heap.size + 1, 0, none⟩ _ HL.out HLC.out (fun x hx A2 c2 A3 c3 W' hb => find2_any (blk_later hb HT.out) x.f0 x.f1 A2 A3 x.f2.length c2 x.f3.length c3) h2)
      clear h2
      go_wp2_with (fail)
      refine HC2.out.mono ?_
      rintro e w2 ⟨rfl, hb⟩
      replace HB := Lib.hid (bel_alloc (bel_trans HB.out hb) (.cells #[.string ⟨#[]⟩, .bool false, .slice none 0 0, .slice none 0 0] 35))
      replace HT := Lib.hid (blk_alloc (blk_later hb HT.out) (.cells #[.string ⟨#[]⟩, .bool false, .slice none 0 0, .slice none 0 0] 35))
      replace HR := Lib.hid (blk_alloc (blk_later hb HR.out) (.cells #[.string ⟨#[]⟩, .bool false, .slice none 0 0, .slice none 0 0] 35))
      have d0 := (blk_cell (blk_new w2 (.cells #[.string ⟨#[]⟩, .bool false, .slice none 0 0, .slice none 0 0] 35)) 0).trans rfl
      have d1 := (blk_cell (blk_new w2 (.cells #[.string ⟨#[]⟩, .bool false, .slice none 0 0, .slice none 0 0] 35)) 1).trans rfl
      have d2 := (blk_cell (blk_new w2 (.cells #[.string ⟨#[]⟩, .bool false, .slice none 0 0, .slice none 0 0] 35)) 2).trans rfl
      have d3 := (blk_cell (blk_new w2 (.cells #[.string ⟨#[]⟩, .bool false, .slice none 0 0, .slice none 0 0] 35)) 3).trans rfl
      have HSL := Lib.hid (blk_lt HR.out)
      have HO := Lib.hid (ownDcl_any zDcl zDcl_ok none 0 none 0 (w2.alloc (.cells #[.string ⟨#[]⟩, .bool false, .slice none 0 0, .slice none 0 0] 35)) ⟨rfl, by simp [zDcl], fun h => by simp [zDcl] at h⟩ (Nat.zero_le _) ⟨rfl, by simp [zDcl], fun h => by simp [zDcl] at h⟩ (Nat.zero_le _))
      clear hb
      simp only [dclV, zDcl, List.length_nil] at HO
      go_wp2_with (fail)
      refine HO.out.mono ?_
      rintro e w3 ⟨A', c', B', d', rfl, k1, k2, k3, k4, hb⟩
      replace HB := Lib.hid (bel_trans HB.out hb)
      replace HR := Lib.hid (blk_later hb HR.out)
      have HK1 := Lib.hid k1
      have HK3 := Lib.hid k3
      have HS2 := HSL
      have HK2 := Lib.hid k2
      have HK4 := Lib.hid k4
      clear k1 k2 k3 k4 hb
      have r0 := (blk_cell HR.out 0).trans rfl
      have r1 := (blk_cell HR.out 1).trans rfl
      have r2 := (blk_cell HR.out 2).trans rfl
      have r3 := (blk_cell HR.out 3).trans rfl
      have f0 := blk_free HR.out 0
      have f1 := blk_free HR.out 1
      have f2 := blk_free HR.out 2
      have f3 := blk_free HR.out 3
      clear d0 d1 d2 d3 i0
      go_wp2_with (fail)
      have hE := blk_set (blk_set (blk_set (blk_set HR.out 0 (.string ⟨#[]⟩)) 1 (.bool false)) 2 (.slice A' 0 c')) 3 (.slice B' 0 d')
      have hfar : ∀ b, b ≠ w.heap.size + 1 + 1 → ((((w3.setCell ⟨w.heap.size + 1 + 1, 0, none⟩ (.string ⟨#[]⟩)).setCell ⟨w.heap.size + 1 + 1, 1, none⟩ (.bool false)).setCell ⟨w.heap.size + 1 + 1, 2, none⟩ (.slice A' 0 c')).setCell ⟨w.heap.size + 1 + 1, 3, none⟩ (.slice B' 0 d')).heap[b]? = w3.heap[b]? := by
        intro b hne
        rw [blk_far _ _ _ _ _ hne, blk_far _ _ _ _ _ hne, blk_far _ _ _ _ _ hne, blk_far _ _ _ _ _ hne]
      have hs2 := HS2.out
      refine cell_tmp_end rfl (hE.trans rfl) Try.underlying35 sizeDcl' rfl rfl rfl ⟨A', c', B', d', rfl, HK1.out, ?_, HK3.out, ?_, ?_⟩
      · exact Kd.F_mono (Kd.F_step HK2.out (fun b hb _ => hfar b (by omega))) (fun b hb => by omega)
      · exact Kd.F_mono (Kd.F_step HK4.out (fun b hb _ => hfar b (by omega))) (fun b hb => by omega)
      · iterate 4 refine Below.setCell ?_ (by simp only; omega) _
        exact HB.out
    | some x =>
      have hP : findP W t = some x := by unfold findP; rw [h1]; exact h2
      rw [hP]
      simp only [Option.getD_some, Option.isSome_some]
      clear hP
      have HC1 := Lib.hid (firstIfc_some (fun p => decide (p.f0 = t.f1 ∧ t.f0 = 4)) W a.AW a.cW ⟨w.heap.size + 1, 0, none⟩ _ HW.out.w_ HW.out.wc (fun x hx A1 c1 A2 c2 W' hb => find1_any (blk_later hb HT.out) x.f0 A1 A2 x.f1.length c1 x.f2.length c2) p h1)
      have HPM := Lib.hid (List.mem_of_find?_eq_some h1)
      clear h1
      go_enter Try.func16, Try.ntmps16
      go_wp2_with (fail)
      refine HC1.out.mono ?_
      rintro e w1 ⟨A1, c1, A2, c2, rfl, k1, k2, k3, k4, hb⟩
      replace HB := Lib.hid (bel_alloc (bel_trans HB.out hb) (.cells #[.string p.f0, .slice A1 p.f1.length c1, .slice A2 p.f2.length c2] 74))
      replace HT := Lib.hid (blk_alloc (blk_later hb HT.out) (.cells #[.string p.f0, .slice A1 p.f1.length c1, .slice A2 p.f2.length c2] 74))
      replace HR := Lib.hid (blk_alloc (blk_later hb HR.out) (.cells #[.string p.f0, .slice A1 p.f1.length c1, .slice A2 p.f2.length c2] 74))
      have i0 := (blk_cell (blk_new w1 (.cells #[.string p.f0, .slice A1 p.f1.length c1, .slice A2 p.f2.length c2] 74)) 1).trans rfl
      have HL := Lib.hid (Kd.C_below k2 (bel_alloc (Below.refl _ _) (.cells #[.string p.f0, .slice A1 p.f1.length c1, .slice A2 p.f2.length c2] 74)))
      have HLC := Lib.hid k1
      clear hb k1 k2 k3 k4
      have HC2 := Lib.hid (firstDcl_some (fun d => decide (d.f0 = t.f2)) p.f1 A1 c1 ⟨w.heap.size + 1, 0, none⟩ _ HL.out HLC.out (fun x hx A2 c2 A3 c3 W' hb => find2_any (blk_later hb HT.out) x.f0 x.f1 A2 A3 x.f2.length c2 x.f3.length c3) x h2)
      have HXM := Lib.hid (List.mem_of_find?_eq_some h2)
      clear h2
      go_wp2_with (fail)
      refine HC2.out.mono ?_
      rintro e w2 ⟨A3, c3, A4, c4, rfl, k1, k2, k3, k4, hb⟩
      replace HB := Lib.hid (bel_alloc (bel_trans HB.out hb) (.cells #[.string x.f0, .bool x.f1, .slice A3 x.f2.length c3, .slice A4 x.f3.length c4] 35))
      replace HT := Lib.hid (blk_alloc (blk_later hb HT.out) (.cells #[.string x.f0, .bool x.f1, .slice A3 x.f2.length c3, .slice A4 x.f3.length c4] 35))
      replace HR := Lib.hid (blk_alloc (blk_later hb HR.out) (.cells #[.string x.f0, .bool x.f1, .slice A3 x.f2.length c3, .slice A4 x.f3.length c4] 35))
      have d0 := (blk_cell (blk_new w2 (.cells #[.string x.f0, .bool x.f1, .slice A3 x.f2.length c3, .slice A4 x.f3.length c4] 35)) 0).trans rfl
      have d1 := (blk_cell (blk_new w2 (.cells #[.string x.f0, .bool x.f1, .slice A3 x.f2.length c3, .slice A4 x.f3.length c4] 35)) 1).trans rfl
      have d2 := (blk_cell (blk_new w2 (.cells #[.string x.f0, .bool x.f1, .slice A3 x.f2.length c3, .slice A4 x.f3.length c4] 35)) 2).trans rfl
      have d3 := (blk_cell (blk_new w2 (.cells #[.string x.f0, .bool x.f1, .slice A3 x.f2.length c3, .slice A4 x.f3.length c4] 35)) 3).trans rfl
      have HSL := Lib.hid (blk_lt HR.out)
      have HO := Lib.hid (ownDcl_any x (HOK.out p HPM.out x HXM.out) A3 c3 A4 c4 (w2.alloc (.cells #[.string x.f0, .bool x.f1, .slice A3 x.f2.length c3, .slice A4 x.f3.length c4] 35)) (Kd.C_below k2 (bel_alloc (Below.refl _ _) _)) k1 (Kd.C_below k4 (bel_alloc (Below.refl _ _) _)) k3)
      clear hb k1 k2 k3 k4
      simp only [dclV] at HO
      go_wp2_with (fail)
      refine HO.out.mono ?_
      rintro e w3 ⟨A', c', B', d', rfl, k1, k2, k3, k4, hb⟩
      replace HB := Lib.hid (bel_trans HB.out hb)
      replace HR := Lib.hid (blk_later hb HR.out)
      have HK1 := Lib.hid k1
      have HK3 := Lib.hid k3
      have HS2 := HSL
      have HK2 := Lib.hid k2
      have HK4 := Lib.hid k4
      clear k1 k2 k3 k4 hb
      have r0 := (blk_cell HR.out 0).trans rfl
      have r1 := (blk_cell HR.out 1).trans rfl
      have r2 := (blk_cell HR.out 2).trans rfl
      have r3 := (blk_cell HR.out 3).trans rfl
      have f0 := blk_free HR.out 0
      have f1 := blk_free HR.out 1
      have f2 := blk_free HR.out 2
      have f3 := blk_free HR.out 3
      clear d0 d1 d2 d3 i0
      go_wp2_with (fail)
      have hE := blk_set (blk_set (blk_set (blk_set HR.out 0 (.string x.f0)) 1 (.bool x.f1)) 2 (.slice A' x.f2.length c')) 3 (.slice B' x.f3.length d')
      have hfar : ∀ b, b ≠ w.heap.size + 1 + 1 → ((((w3.setCell ⟨w.heap.size + 1 + 1, 0, none⟩ (.string x.f0)).setCell ⟨w.heap.size + 1 + 1, 1, none⟩ (.bool x.f1)).setCell ⟨w.heap.size + 1 + 1, 2, none⟩ (.slice A' x.f2.length c')).setCell ⟨w.heap.size + 1 + 1, 3, none⟩ (.slice B' x.f3.length d')).heap[b]? = w3.heap[b]? := by
        intro b hne
        rw [blk_far _ _ _ _ _ hne, blk_far _ _ _ _ _ hne, blk_far _ _ _ _ _ hne, blk_far _ _ _ _ _ hne]
      have hs2 := HS2.out
      refine cell_tmp_end rfl (hE.trans rfl) Try.underlying35 sizeDcl' rfl rfl rfl ⟨A', c', B', d', rfl, HK1.out, ?_, HK3.out, ?_, ?_⟩
      · exact Kd.F_mono (Kd.F_step HK2.out (fun b hb _ => hfar b (by omega))) (fun b hb => by omega)
      · exact Kd.F_mono (Kd.F_step HK4.out (fun b hb _ => hfar b (by omega))) (fun b hb => by omega)
      · iterate 4 refine Below.setCell ?_ (by simp only; omega) _
        exact HB.out
end Go.Proofs.Ytbhagjhhgmmcgaa
namespace Go.Proofs.Ytbhagjhhgmmcgaa
open Go.RowKit PRef Go.Proofs.YtbhagjhhgmmcgaaW.PrintWords
set_option linter.unusedVariables false

def ifaceP (W : List Ifc) (t : Ty) : Bool := (findP W t).isSome && !((findP W t).getD zDcl).f1
abbrev zTy : Ty := z29
def fieldP (W : List Ifc) (t : Ty) (nm : ByteArray) : Option Fld := ((findP W t).getD zDcl).f2.find? fun f => decide (f.f0 = nm) && ((findP W t).getD zDcl).f1
def methodsP (W : List Ifc) (B : List Ty) (t : Ty) : List Mth :=
  if t.f0 = 6 then
    (if t.f3 < 0 ∨ (B.length : Int) ≤ t.f3 then []
     else if ifaceP W (rd_T29 B t.f3) = true then ((findP W (rd_T29 B t.f3)).getD zDcl).f3 else [])
  else ((findP W t).getD zDcl).f3

set_option maxRecDepth 100000 in
set_option maxHeartbeats 4000000 in
theorem iface_any (a : ScA) (W : List Ifc) (B : List Ty) (t : Ty) (A : Option Addr) (c : Nat) (w : World) (hW : ScC a W B w) (ok : WOk W) :
    Calls Try.prog 25 #[scV a W B, tyV t A c] w fun e w' => e = .returned (.bool (ifaceP W t)) ∧ Below w.heap.size w w' := by
  have HC := Lib.hid (find_any a W B t A c _ (hW.later (bel_alloc (bel_alloc (Below.refl w.heap.size w) (.cells #[.slice a.AW W.length a.cW, .slice a.AI a.nI a.cI, .slice a.AN a.nN a.cN, .slice a.AB B.length a.cB, .slice a.AV a.nV a.cV] 27)) (.cells #[.int .i64 t.f0, .string t.f1, .string t.f2, .int .i64 t.f3, .slice A t.f4.length c] 29))) ok)
  have HB := Lib.hid (bel_alloc (bel_alloc (Below.refl w.heap.size w) (.cells #[.slice a.AW W.length a.cW, .slice a.AI a.nI a.cI, .slice a.AN a.nN a.cN, .slice a.AB B.length a.cB, .slice a.AV a.nV a.cV] 27)) (.cells #[.int .i64 t.f0, .string t.f1, .string t.f2, .int .i64 t.f3, .slice A t.f4.length c] 29))
  unfold ifaceP
  generalize (findP W t).getD zDcl = x at *
  generalize (findP W t).isSome = b at *
  clear hW ok
  simp only [scV, tyV, dclV] at *
  cases b with
  | true =>
    go_enter Try.func25, Try.ntmps25
    go_wp2_with (fail)
    refine HC.out.mono ?_
    rintro e w1 ⟨A1, c1, B1, d1, rfl, _, _, _, _, hb⟩
    replace HB := Lib.hid (bel_alloc (bel_trans HB.out hb) (.cells #[.string x.f0, .bool x.f1, .slice A1 x.f2.length c1, .slice B1 x.f3.length d1] 35))
    clear hb
    go_wp2_with (fail)
    go_ret
    exact ⟨rfl, HB.out⟩
  | false =>
    go_enter Try.func25, Try.ntmps25
    go_wp2_with (fail)
    refine HC.out.mono ?_
    rintro e w1 ⟨A1, c1, B1, d1, rfl, _, _, _, _, hb⟩
    replace HB := Lib.hid (bel_alloc (bel_trans HB.out hb) (.cells #[.string x.f0, .bool x.f1, .slice A1 x.f2.length c1, .slice B1 x.f3.length d1] 35))
    clear hb
    go_wp2_with (fail)
    go_ret
    exact ⟨rfl, HB.out⟩

set_option maxRecDepth 100000 in
set_option maxHeartbeats 2000000 in
theorem firstFld_someF (q : Fld → Bool) (l : List Fld) (A : Option Addr) (c : Nat) (p p' : Addr) (w : World) {ok : Nat → Prop} (hFF : Kd.F kFld w ok A l.length l) (hc : l.length ≤ c)
    (hF : ∀ x ∈ l, ∀ (A5 : Option Addr) (c5 : Nat) (W : World), Below w.heap.size w W → Calls Try.prog 56 #[.agg #[.string x.f0, .int .i64 x.f1.f0, .string x.f1.f1, .string x.f1.f2, .int .i64 x.f1.f3, .slice A5 x.f1.f4.length c5], .pointer (some p), .pointer (some p')] W fun e W' => e = .returned (.bool (q x)) ∧ Below W.heap.size W W') (x : Fld) (hn : l.find? q = some x) :
    Calls Try.prog 55 #[.slice A l.length c, .func (.func 56) #[] #[.pointer (some p), .pointer (some p')]] w fun e W => ∃ A5 c5, e = .returned (.tuple #[.agg #[.string x.f0, .int .i64 x.f1.f0, .string x.f1.f1, .string x.f1.f2, .int .i64 x.f1.f3, .slice A5 x.f1.f4.length c5], .bool true]) ∧ x.f1.f4.length ≤ c5 ∧ Kd.F kTy W ok A5 x.f1.f4.length x.f1.f4 ∧ Below w.heap.size w W := by
  have hb0 := bel_alloc (Below.refl w.heap.size w) (.cells #[.string ⟨#[]⟩, .int .i64 0, .string ⟨#[]⟩, .string ⟨#[]⟩, .int .i64 0, .slice none 0 0] 83)
  have HI := Lib.hid (indexFld_any q l A c p p' _ (Kd.C_below (Kd.F_now hFF) hb0) hc (fun x hx A5 c5 W hb => hF x hx A5 c5 W (hb0.trans (hb.mono (by simp)))))
  obtain ⟨k, hk, hx⟩ := idxF_some q l 0 x hn
  rw [hk, Nat.zero_add] at HI
  have hlt : k < l.length := (List.getElem?_eq_some_iff.1 hx).1
  have HB0 := Lib.hid hb0
  have HR0 := Lib.hid (blk_new w (.cells #[.string ⟨#[]⟩, .int .i64 0, .string ⟨#[]⟩, .string ⟨#[]⟩, .int .i64 0, .slice none 0 0] 83))
  obtain ⟨ad, cs, hA1, hcl, hFK, hcell, _⟩ := Kd.F_get hFF z83 (k : Int) (by omega) (by omega)
  subst hA1
  rw [show l.getD (k : Int).toNat z83 = x from by rw [Int.toNat_natCast, List.getD_eq_getElem?_getD, hx]; rfl] at hFK
  obtain ⟨A5, c5, rfl, g0, g1⟩ := fld_openF hFK
  rw [Int.toNat_natCast] at hcell
  have x0 : w.cell? (ad.add (k * 6)) = some (.string x.f0) := hcell 0 _ rfl
  have x1 : w.cell? ⟨(ad.add (k * 6)).block, (ad.add (k * 6)).off + 1, none⟩ = some (.int .i64 x.f1.f0) := by have h := hcell 1 _ rfl; rw [← Addr.add_add] at h; exact h
  have x2 : w.cell? ⟨(ad.add (k * 6)).block, (ad.add (k * 6)).off + 2, none⟩ = some (.string x.f1.f1) := by have h := hcell 2 _ rfl; rw [← Addr.add_add] at h; exact h
  have x3 : w.cell? ⟨(ad.add (k * 6)).block, (ad.add (k * 6)).off + 3, none⟩ = some (.string x.f1.f2) := by have h := hcell 3 _ rfl; rw [← Addr.add_add] at h; exact h
  have x4 : w.cell? ⟨(ad.add (k * 6)).block, (ad.add (k * 6)).off + 4, none⟩ = some (.int .i64 x.f1.f3) := by have h := hcell 4 _ rfl; rw [← Addr.add_add] at h; exact h
  have x5 : w.cell? ⟨(ad.add (k * 6)).block, (ad.add (k * 6)).off + 5, none⟩ = some (.slice A5 x.f1.f4.length c5) := by have h := hcell 5 _ rfl; rw [← Addr.add_add] at h; exact h
  clear hcell hFK hcl
  have HXS := Lib.hid (And.intro x0 (And.intro x1 (And.intro x2 (And.intro x3 (And.intro x4 x5)))))
  have HG := Lib.hid (And.intro g0 g1)
  have HLM := Lib.hid (Kd.F_now hFF).2.1
  clear hF hFF hn hb0 hk hx x0 x1 x2 x3 x4 x5 g0 g1
  go_enter Try.func55, Try.ntmps55
  go_wp2_with (fail)
  refine HI.out.mono ?_
  rintro e w1 ⟨rfl, hb⟩
  have HBW := Lib.hid (bel_trans HB0.out hb)
  have HR := Lib.hid (blk_later hb HR0.out)
  clear hb
  obtain ⟨y0, y1, y2, y3, y4, y5⟩ := HXS.out
  have x0 := cell_later HBW.out y0
  have x1 := cell_later HBW.out y1
  have x2 := cell_later HBW.out y2
  have x3 := cell_later HBW.out y3
  have x4 := cell_later HBW.out y4
  have x5 := cell_later HBW.out y5
  have z0 := (blk_cell HR.out 0).trans rfl
  have z1 := (blk_cell HR.out 1).trans rfl
  have z2 := (blk_cell HR.out 2).trans rfl
  have z3 := (blk_cell HR.out 3).trans rfl
  have z4 := (blk_cell HR.out 4).trans rfl
  have z5 := (blk_cell HR.out 5).trans rfl
  have f0 := blk_free HR.out 0
  have f1 := blk_free HR.out 1
  have f2 := blk_free HR.out 2
  have f3 := blk_free HR.out 3
  have f4 := blk_free HR.out 4
  have f5 := blk_free HR.out 5
  have i0 : 0 ≤ (k : Int) := by omega
  have i1 : (k : Int) < l.length := by omega
  have i2 : ¬ (k : Int) < 0 := by omega
  clear y0 y1 y2 y3 y4 y5
  go_wp2_with (fail)
  have hE := blk_set (blk_set (blk_set (blk_set (blk_set (blk_set (HR.out) 0 (.string x.f0)) 1 (.int .i64 x.f1.f0)) 2 (.string x.f1.f1)) 3 (.string x.f1.f2)) 4 (.int .i64 x.f1.f3)) 5 (.slice A5 x.f1.f4.length c5)
  have hfin := Below.setCell (Below.setCell (Below.setCell (Below.setCell (Below.setCell (Below.setCell (HBW.out) (p := ⟨w.heap.size, 0, none⟩) (Nat.le_refl _) (.string x.f0)) (p := ⟨w.heap.size, 1, none⟩) (Nat.le_refl _) (.int .i64 x.f1.f0)) (p := ⟨w.heap.size, 2, none⟩) (Nat.le_refl _) (.string x.f1.f1)) (p := ⟨w.heap.size, 3, none⟩) (Nat.le_refl _) (.string x.f1.f2)) (p := ⟨w.heap.size, 4, none⟩) (Nat.le_refl _) (.int .i64 x.f1.f3)) (p := ⟨w.heap.size, 5, none⟩) (Nat.le_refl _) (.slice A5 x.f1.f4.length c5)
  refine cell_tmp_end rfl (hE.trans rfl) Try.underlying83 sizeFld' rfl rfl rfl ⟨A5, c5, rfl, HG.out.1, ?_, hfin⟩
  · exact Kd.F_below (HG.out.2) hfin

set_option maxRecDepth 100000 in
set_option maxHeartbeats 4000000 in
theorem field_any (a : ScA) (W : List Ifc) (B : List Ty) (t : Ty) (A : Option Addr) (c : Nat) (nm : ByteArray) (w : World) (hW : ScC a W B w) (ok : WOk W) :
    Calls Try.prog 18 #[scV a W B, tyV t A c, .string nm] w fun e w' => ∃ A' c', e = .returned (.tuple #[tyV (((fieldP W t nm).map (·.f1)).getD zTy) A' c', .bool (fieldP W t nm).isSome]) ∧ (((fieldP W t nm).map (·.f1)).getD zTy).f4.length ≤ c' ∧ Kd.C kTy w' A' (((fieldP W t nm).map (·.f1)).getD zTy).f4.length (((fieldP W t nm).map (·.f1)).getD zTy).f4 ∧ Below w.heap.size w w' := by
  have hb0 := bel_alloc (bel_alloc (bel_alloc (bel_alloc (Below.refl w.heap.size w) (.cells #[.slice a.AW W.length a.cW, .slice a.AI a.nI a.cI, .slice a.AN a.nN a.cN, .slice a.AB B.length a.cB, .slice a.AV a.nV a.cV] 27)) (.cells #[.int .i64 t.f0, .string t.f1, .string t.f2, .int .i64 t.f3, .slice A t.f4.length c] 29)) (.cells #[.string nm] 9)) (.cells #[.int .i64 0, .string ⟨#[]⟩, .string ⟨#[]⟩, .int .i64 0, .slice none 0 0] 29)
  have HC := Lib.hid (find_any a W B t A c _ (hW.later hb0) ok)
  have HB := Lib.hid hb0
  have HNM := Lib.hid (blk_alloc (show (((w.alloc (.cells #[.slice a.AW W.length a.cW, .slice a.AI a.nI a.cI, .slice a.AN a.nN a.cN, .slice a.AB B.length a.cB, .slice a.AV a.nV a.cV] 27)).alloc (.cells #[.int .i64 t.f0, .string t.f1, .string t.f2, .int .i64 t.f3, .slice A t.f4.length c] 29)).alloc (.cells #[.string nm] 9)).heap[w.heap.size + 1 + 1]? = some (.cells #[.string nm] 9 (0, 0)) by have h := blk_new ((w.alloc (.cells #[.slice a.AW W.length a.cW, .slice a.AI a.nI a.cI, .slice a.AN a.nN a.cN, .slice a.AB B.length a.cB, .slice a.AV a.nV a.cV] 27)).alloc (.cells #[.int .i64 t.f0, .string t.f1, .string t.f2, .int .i64 t.f3, .slice A t.f4.length c] 29)) (.cells #[.string nm] 9); simp only [World.size_alloc] at h; exact h) (.cells #[.int .i64 0, .string ⟨#[]⟩, .string ⟨#[]⟩, .int .i64 0, .slice none 0 0] 29))
  have HR := Lib.hid (show ((((w.alloc (.cells #[.slice a.AW W.length a.cW, .slice a.AI a.nI a.cI, .slice a.AN a.nN a.cN, .slice a.AB B.length a.cB, .slice a.AV a.nV a.cV] 27)).alloc (.cells #[.int .i64 t.f0, .string t.f1, .string t.f2, .int .i64 t.f3, .slice A t.f4.length c] 29)).alloc (.cells #[.string nm] 9)).alloc (.cells #[.int .i64 0, .string ⟨#[]⟩, .string ⟨#[]⟩, .int .i64 0, .slice none 0 0] 29)).heap[w.heap.size + 1 + 1 + 1]? = some (.cells #[.int .i64 0, .string ⟨#[]⟩, .string ⟨#[]⟩, .int .i64 0, .slice none 0 0] 29 (0, 0)) by have h := blk_new (((w.alloc (.cells #[.slice a.AW W.length a.cW, .slice a.AI a.nI a.cI, .slice a.AN a.nN a.cN, .slice a.AB B.length a.cB, .slice a.AV a.nV a.cV] 27)).alloc (.cells #[.int .i64 t.f0, .string t.f1, .string t.f2, .int .i64 t.f3, .slice A t.f4.length c] 29)).alloc (.cells #[.string nm] 9)) (.cells #[.int .i64 0, .string ⟨#[]⟩, .string ⟨#[]⟩, .int .i64 0, .slice none 0 0] 29); simp only [World.size_alloc] at h; exact h)
  unfold fieldP
  generalize (findP W t).getD zDcl = x at *
  generalize (findP W t).isSome = b at *
  clear hW ok hb0
  simp only [scV, tyV, dclV] at *
  cases h1 : x.f2.find? (fun f => decide (f.f0 = nm) && x.f1) with
  | none =>
    simp only [Option.map_none, Option.getD_none, Option.isSome_none, zTy, z29, List.length_nil]
    go_enter Try.func18, Try.ntmps18
    go_wp2_with (fail)
    refine HC.out.mono ?_
    rintro e w1 ⟨A1, c1, B1, d1, rfl, k1, k2, k3, k4, hb⟩
    replace HB := Lib.hid (bel_alloc (bel_trans HB.out hb) (.cells #[.string x.f0, .bool x.f1, .slice A1 x.f2.length c1, .slice B1 x.f3.length d1] 35))
    replace HNM := Lib.hid (blk_alloc (blk_later hb HNM.out) (.cells #[.string x.f0, .bool x.f1, .slice A1 x.f2.length c1, .slice B1 x.f3.length d1] 35))
    replace HR := Lib.hid (blk_alloc (blk_later hb HR.out) (.cells #[.string x.f0, .bool x.f1, .slice A1 x.f2.length c1, .slice B1 x.f3.length d1] 35))
    have HD := Lib.hid (blk_new w1 (.cells #[.string x.f0, .bool x.f1, .slice A1 x.f2.length c1, .slice B1 x.f3.length d1] 35))
    have HF := Lib.hid (Kd.F_alloc k2 (.cells #[.string x.f0, .bool x.f1, .slice A1 x.f2.length c1, .slice B1 x.f3.length d1] 35))
    have HLN := Lib.hid (show w.heap.size + 1 + 1 + 1 + 1 ≤ ((((w.alloc (.cells #[.slice a.AW W.length a.cW, .slice a.AI a.nI a.cI, .slice a.AN a.nN a.cN, .slice a.AB B.length a.cB, .slice a.AV a.nV a.cV] 27)).alloc (.cells #[.int .i64 t.f0, .string t.f1, .string t.f2, .int .i64 t.f3, .slice A t.f4.length c] 29)).alloc (.cells #[.string nm] 9)).alloc (.cells #[.int .i64 0, .string ⟨#[]⟩, .string ⟨#[]⟩, .int .i64 0, .slice none 0 0] 29)).heap.size from by simp only [World.size_alloc]; omega)
    have HK1 := Lib.hid k1
    have HC2 := Lib.hid (firstFld_none (fun f => decide (f.f0 = nm) && x.f1) x.f2 A1 c1 ⟨w.heap.size + 1 + 1, 0, none⟩ ⟨w1.heap.size, 0, none⟩ _ (Kd.F_now HF.out) HK1.out (fun f hf A5 c5 W' hb => field1_any (blk_later hb HNM.out) (blk_later hb HD.out) f.f0 f.f1.f0 f.f1.f1 f.f1.f2 f.f1.f3 A5 f.f1.f4.length c5) h1)
    have d2 := (blk_cell HD.out 2).trans rfl
    clear hb k1 k2 k3 k4 h1
    go_wp2_with (fail)
    refine HC2.out.mono ?_
    rintro e w2 ⟨rfl, hb⟩
    replace HB := Lib.hid (bel_alloc (bel_trans HB.out hb) (.cells #[.string ⟨#[]⟩, .int .i64 0, .string ⟨#[]⟩, .string ⟨#[]⟩, .int .i64 0, .slice none 0 0] 83))
    replace HR := Lib.hid (blk_alloc (blk_later hb HR.out) (.cells #[.string ⟨#[]⟩, .int .i64 0, .string ⟨#[]⟩, .string ⟨#[]⟩, .int .i64 0, .slice none 0 0] 83))
    have HX := Lib.hid (blk_new w2 (.cells #[.string ⟨#[]⟩, .int .i64 0, .string ⟨#[]⟩, .string ⟨#[]⟩, .int .i64 0, .slice none 0 0] 83))
    have z0 := (blk_cell HR.out 0).trans rfl
    have z1 := (blk_cell HR.out 1).trans rfl
    have z2 := (blk_cell HR.out 2).trans rfl
    have z3 := (blk_cell HR.out 3).trans rfl
    have z4 := (blk_cell HR.out 4).trans rfl
    have f0 := blk_free HR.out 0
    have f1 := blk_free HR.out 1
    have f2 := blk_free HR.out 2
    have f3 := blk_free HR.out 3
    have f4 := blk_free HR.out 4
    have y1 := (blk_cell HX.out 1).trans rfl
    have y2 := (blk_cell HX.out 2).trans rfl
    have y3 := (blk_cell HX.out 3).trans rfl
    have y4 := (blk_cell HX.out 4).trans rfl
    have y5 := (blk_cell HX.out 5).trans rfl
    clear hb
    go_wp2_with (fail)
    have hE := blk_set (blk_set (blk_set (blk_set (blk_set (HR.out) 0 (.int .i64 0)) 1 (.string ⟨#[]⟩)) 2 (.string ⟨#[]⟩)) 3 (.int .i64 0)) 4 (.slice none 0 0)
    have hlt := blk_lt HR.out
    refine cell_tmp_end rfl (hE.trans rfl) Try.underlying29 (sizeTy.trans rfl) rfl rfl rfl ⟨none, 0, rfl, Nat.le_refl _, ⟨rfl, by simp, fun h => by simp at h⟩, ?_⟩
    iterate 5 refine Below.setCell ?_ (by simp only; omega) _
    exact HB.out
  | some f =>
    simp only [Option.map_some, Option.getD_some, Option.isSome_some]
    go_enter Try.func18, Try.ntmps18
    go_wp2_with (fail)
    refine HC.out.mono ?_
    rintro e w1 ⟨A1, c1, B1, d1, rfl, k1, k2, k3, k4, hb⟩
    replace HB := Lib.hid (bel_alloc (bel_trans HB.out hb) (.cells #[.string x.f0, .bool x.f1, .slice A1 x.f2.length c1, .slice B1 x.f3.length d1] 35))
    replace HNM := Lib.hid (blk_alloc (blk_later hb HNM.out) (.cells #[.string x.f0, .bool x.f1, .slice A1 x.f2.length c1, .slice B1 x.f3.length d1] 35))
    replace HR := Lib.hid (blk_alloc (blk_later hb HR.out) (.cells #[.string x.f0, .bool x.f1, .slice A1 x.f2.length c1, .slice B1 x.f3.length d1] 35))
    have HD := Lib.hid (blk_new w1 (.cells #[.string x.f0, .bool x.f1, .slice A1 x.f2.length c1, .slice B1 x.f3.length d1] 35))
    have HF := Lib.hid (Kd.F_alloc k2 (.cells #[.string x.f0, .bool x.f1, .slice A1 x.f2.length c1, .slice B1 x.f3.length d1] 35))
    have HLN := Lib.hid (show w.heap.size + 1 + 1 + 1 + 1 ≤ ((((w.alloc (.cells #[.slice a.AW W.length a.cW, .slice a.AI a.nI a.cI, .slice a.AN a.nN a.cN, .slice a.AB B.length a.cB, .slice a.AV a.nV a.cV] 27)).alloc (.cells #[.int .i64 t.f0, .string t.f1, .string t.f2, .int .i64 t.f3, .slice A t.f4.length c] 29)).alloc (.cells #[.string nm] 9)).alloc (.cells #[.int .i64 0, .string ⟨#[]⟩, .string ⟨#[]⟩, .int .i64 0, .slice none 0 0] 29)).heap.size from by simp only [World.size_alloc]; omega)
    have HK1 := Lib.hid k1
    have HC2 := Lib.hid (firstFld_someF (fun f => decide (f.f0 = nm) && x.f1) x.f2 A1 c1 ⟨w.heap.size + 1 + 1, 0, none⟩ ⟨w1.heap.size, 0, none⟩ _ HF.out HK1.out (fun f hf A5 c5 W' hb => field1_any (blk_later hb HNM.out) (blk_later hb HD.out) f.f0 f.f1.f0 f.f1.f1 f.f1.f2 f.f1.f3 A5 f.f1.f4.length c5) f h1)
    have d2 := (blk_cell HD.out 2).trans rfl
    clear hb k1 k2 k3 k4 h1
    go_wp2_with (fail)
    refine HC2.out.mono ?_
    rintro e w2 ⟨A5, c5, rfl, g1, g2, hb⟩
    have HG1 := Lib.hid g1
    have HG2 := Lib.hid g2
    replace HB := Lib.hid (bel_alloc (bel_trans HB.out hb) (.cells #[.string f.f0, .int .i64 f.f1.f0, .string f.f1.f1, .string f.f1.f2, .int .i64 f.f1.f3, .slice A5 f.f1.f4.length c5] 83))
    replace HR := Lib.hid (blk_alloc (blk_later hb HR.out) (.cells #[.string f.f0, .int .i64 f.f1.f0, .string f.f1.f1, .string f.f1.f2, .int .i64 f.f1.f3, .slice A5 f.f1.f4.length c5] 83))
    have HX := Lib.hid (blk_new w2 (.cells #[.string f.f0, .int .i64 f.f1.f0, .string f.f1.f1, .string f.f1.f2, .int .i64 f.f1.f3, .slice A5 f.f1.f4.length c5] 83))
    have z0 := (blk_cell HR.out 0).trans rfl
    have z1 := (blk_cell HR.out 1).trans rfl
    have z2 := (blk_cell HR.out 2).trans rfl
    have z3 := (blk_cell HR.out 3).trans rfl
    have z4 := (blk_cell HR.out 4).trans rfl
    have f0 := blk_free HR.out 0
    have f1 := blk_free HR.out 1
    have f2 := blk_free HR.out 2
    have f3 := blk_free HR.out 3
    have f4 := blk_free HR.out 4
    have y1 := (blk_cell HX.out 1).trans rfl
    have y2 := (blk_cell HX.out 2).trans rfl
    have y3 := (blk_cell HX.out 3).trans rfl
    have y4 := (blk_cell HX.out 4).trans rfl
    have y5 := (blk_cell HX.out 5).trans rfl
    clear hb g1 g2
    go_wp2_with (fail)
    have hE := blk_set (blk_set (blk_set (blk_set (blk_set (HR.out) 0 (.int .i64 f.f1.f0)) 1 (.string f.f1.f1)) 2 (.string f.f1.f2)) 3 (.int .i64 f.f1.f3)) 4 (.slice A5 f.f1.f4.length c5)
    have hlt := blk_lt HR.out
    refine cell_tmp_end rfl (hE.trans rfl) Try.underlying29 (sizeTy.trans rfl) rfl rfl rfl ⟨A5, c5, rfl, HG1.out, ?_, ?_⟩
    · have hfar : ∀ b, b ≠ w.heap.size + 1 + 1 + 1 → (((((((w2.alloc (.cells #[.string f.f0, .int .i64 f.f1.f0, .string f.f1.f1, .string f.f1.f2, .int .i64 f.f1.f3, .slice A5 f.f1.f4.length c5] 83)).setCell ⟨w.heap.size + 1 + 1 + 1, 0, none⟩ (.int .i64 f.f1.f0)).setCell ⟨w.heap.size + 1 + 1 + 1, 1, none⟩ (.string f.f1.f1)).setCell ⟨w.heap.size + 1 + 1 + 1, 2, none⟩ (.string f.f1.f2)).setCell ⟨w.heap.size + 1 + 1 + 1, 3, none⟩ (.int .i64 f.f1.f3)).setCell ⟨w.heap.size + 1 + 1 + 1, 4, none⟩ (.slice A5 f.f1.f4.length c5))).heap[b]? = (w2.alloc (.cells #[.string f.f0, .int .i64 f.f1.f0, .string f.f1.f1, .string f.f1.f2, .int .i64 f.f1.f3, .slice A5 f.f1.f4.length c5] 83)).heap[b]? := by intro b hne; rw [blk_far _ _ _ _ _ hne, blk_far _ _ _ _ _ hne, blk_far _ _ _ _ _ hne, blk_far _ _ _ _ _ hne, blk_far _ _ _ _ _ hne]
      exact Kd.F_now (Kd.F_step (Kd.F_alloc HG2.out (.cells #[.string f.f0, .int .i64 f.f1.f0, .string f.f1.f1, .string f.f1.f2, .int .i64 f.f1.f3, .slice A5 f.f1.f4.length c5] 83)) (fun b hb _ => hfar b (by have := HLN.out; omega)))
    · iterate 5 refine Below.setCell ?_ (by simp only; omega) _
      exact HB.out
end Go.Proofs.Ytbhagjhhgmmcgaa
