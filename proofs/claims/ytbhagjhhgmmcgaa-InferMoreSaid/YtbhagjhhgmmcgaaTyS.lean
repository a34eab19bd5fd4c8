/- term.Subst with any types to put in. -/
import Derived.Test.YtbhagjhhgmmcgaaTyE
namespace Go.Proofs.Ytbhagjhhgmmcgaa
open Go.RowKit PRef Go.Proofs.YtbhagjhhgmmcgaaW.PrintWords
set_option linter.unusedVariables false

mutual
def substT (args : List Ty) : Ty → Ty
  | ⟨k, p, n, m, l⟩ => if k = 6 ∧ 0 ≤ m ∧ m < args.length then rd_T29 args m else ⟨k, p, n, m, substL args l⟩
def substL (args : List Ty) : List Ty → List Ty
  | [] => []
  | a :: r => substT args a :: substL args r
end
theorem substL_map (args : List Ty) : ∀ l : List Ty, substL args l = l.map (substT args)
  | [] => rfl
  | a :: r => by rw [substL, List.map_cons, substL_map args r]
def mix (args l : List Ty) (k : Nat) : List Ty := (l.take k).map (substT args) ++ l.drop k
theorem mix_zero (args l : List Ty) : mix args l 0 = l := by simp [mix]
theorem mix_all (args l : List Ty) : mix args l l.length = l.map (substT args) := by simp [mix]
theorem mix_len (args l : List Ty) (k : Nat) : (mix args l k).length = l.length := by simp [mix]; omega
theorem mix_get (args l : List Ty) (k : Nat) (hk : k < l.length) : (mix args l k)[k]? = l[k]? := by
  unfold mix
  rw [List.getElem?_append_right (by simp; omega)]
  simp only [List.length_map, List.length_take, Nat.min_eq_left (Nat.le_of_lt hk), Nat.sub_self, List.getElem?_drop, Nat.add_zero]
theorem mix_set (args l : List Ty) (k : Nat) (x : Ty) (hx : l[k]? = some x) : (mix args l k).set k (substT args x) = mix args l (k + 1) := by
  obtain ⟨hk, rfl⟩ := List.getElem?_eq_some_iff.1 hx
  unfold mix
  rw [List.set_append_right _ _ (by simp; omega), List.drop_eq_getElem_cons hk]
  simp only [List.length_map, List.length_take, Nat.min_eq_left (Nat.le_of_lt hk), Nat.sub_self, List.set_cons_zero]
  rw [List.take_succ_eq_append_getElem hk, List.map_append, List.append_assoc]
  rfl

set_option maxHeartbeats 1000000 in
theorem TyRow.putX {W : World} {g B0 B k : Nat} {l : List Ty} (h : TyRow W g B0 B k l) (hk : k < l.length) (x : Ty) (hx : l[k]? = some x) (y : Ty) (u0 u1 u2 u3 u4 : Value) (hf : Kd.FK kTy W (fun b => b ≠ g ∧ B ≤ b) y [u0, u1, u2, u3, u4]) :
    TyRow (((((W.setCell ⟨g, k * 5, none⟩ u0).setCell ⟨g, k * 5 + 1, none⟩ u1).setCell ⟨g, k * 5 + 2, none⟩ u2).setCell ⟨g, k * 5 + 3, none⟩ u3).setCell ⟨g, k * 5 + 4, none⟩ u4) g B0 B (k + 1) (l.set k y) := by
  obtain ⟨cur, hb, hc⟩ := h
  have hs := blk_set (blk_set (blk_set (blk_set (blk_set hb (k * 5) u0) (k * 5 + 1) u1) (k * 5 + 2) u2) (k * 5 + 3) u3) (k * 5 + 4) u4
  have hfar : ∀ b, b ≠ g → (((((W.setCell ⟨g, k * 5, none⟩ u0).setCell ⟨g, k * 5 + 1, none⟩ u1).setCell ⟨g, k * 5 + 2, none⟩ u2).setCell ⟨g, k * 5 + 3, none⟩ u3).setCell ⟨g, k * 5 + 4, none⟩ u4).heap[b]? = W.heap[b]? := by
    intro b hne
    rw [blk_far _ _ _ _ _ hne, blk_far _ _ _ _ _ hne, blk_far _ _ _ _ _ hne, blk_far _ _ _ _ _ hne, blk_far _ _ _ _ _ hne]
  refine ⟨_, hs, fun j z hy => ?_⟩
  by_cases hj : j = k
  · subst hj
    have hyz : y = z := by rw [List.getElem?_set_self hk] at hy; exact Option.some.inj hy
    subst hyz
    obtain ⟨cs, h1, h2, _⟩ := hc j x hx
    have hlen : j * 5 + 4 < cur.size := (Array.getElem?_eq_some_iff.1 (h2 4 (cs[4]'(by omega)) (List.getElem?_eq_getElem (by omega)))).1
    have p0 : ((((((cur.setIfInBounds (j * 5) u0).setIfInBounds (j * 5 + 1) u1).setIfInBounds (j * 5 + 2) u2).setIfInBounds (j * 5 + 3) u3).setIfInBounds (j * 5 + 4) u4)[j * 5 + 0]? = some u0) := by
      rw [Array.getElem?_setIfInBounds_ne (by omega), Array.getElem?_setIfInBounds_ne (by omega), Array.getElem?_setIfInBounds_ne (by omega), Array.getElem?_setIfInBounds_ne (by omega)]
      exact Array.getElem?_setIfInBounds_self_of_lt (by omega)
    have p1 : ((((((cur.setIfInBounds (j * 5) u0).setIfInBounds (j * 5 + 1) u1).setIfInBounds (j * 5 + 2) u2).setIfInBounds (j * 5 + 3) u3).setIfInBounds (j * 5 + 4) u4)[j * 5 + 1]? = some u1) := by
      rw [Array.getElem?_setIfInBounds_ne (by omega), Array.getElem?_setIfInBounds_ne (by omega), Array.getElem?_setIfInBounds_ne (by omega)]
      exact Array.getElem?_setIfInBounds_self_of_lt (by simp; omega)
    have p2 : ((((((cur.setIfInBounds (j * 5) u0).setIfInBounds (j * 5 + 1) u1).setIfInBounds (j * 5 + 2) u2).setIfInBounds (j * 5 + 3) u3).setIfInBounds (j * 5 + 4) u4)[j * 5 + 2]? = some u2) := by
      rw [Array.getElem?_setIfInBounds_ne (by omega), Array.getElem?_setIfInBounds_ne (by omega)]
      exact Array.getElem?_setIfInBounds_self_of_lt (by simp; omega)
    have p3 : ((((((cur.setIfInBounds (j * 5) u0).setIfInBounds (j * 5 + 1) u1).setIfInBounds (j * 5 + 2) u2).setIfInBounds (j * 5 + 3) u3).setIfInBounds (j * 5 + 4) u4)[j * 5 + 3]? = some u3) := by
      rw [Array.getElem?_setIfInBounds_ne (by omega)]
      exact Array.getElem?_setIfInBounds_self_of_lt (by simp; omega)
    have p4 : ((((((cur.setIfInBounds (j * 5) u0).setIfInBounds (j * 5 + 1) u1).setIfInBounds (j * 5 + 2) u2).setIfInBounds (j * 5 + 3) u3).setIfInBounds (j * 5 + 4) u4)[j * 5 + 4]? = some u4) :=
      Array.getElem?_setIfInBounds_self_of_lt (by simp; omega)
    refine ⟨[u0, u1, u2, u3, u4], rfl, fun i u hu => ?_, ?_⟩
    · have hi : i < 5 := (List.getElem?_eq_some_iff.1 hu).1
      have hi5 : i = 0 ∨ i = 1 ∨ i = 2 ∨ i = 3 ∨ i = 4 := by omega
      rcases hi5 with rfl | rfl | rfl | rfl | rfl
      · have e : u0 = u := Option.some.inj hu
        rw [← e]
        exact p0
      · have e : u1 = u := Option.some.inj hu
        rw [← e]
        exact p1
      · have e : u2 = u := Option.some.inj hu
        rw [← e]
        exact p2
      · have e : u3 = u := Option.some.inj hu
        rw [← e]
        exact p3
      · have e : u4 = u := Option.some.inj hu
        rw [← e]
        exact p4
    · exact Foot.step (Foot.mono hf (fun b hb => ⟨hb.1, .inr hb.2, fun _ => hb.2⟩)) (fun b hb _ => hfar b hb.1)
  · rw [List.getElem?_set_ne (fun e => hj e.symm)] at hy
    obtain ⟨cs, h1, h2, h3⟩ := hc j z hy
    refine ⟨cs, h1, fun i u hu => ?_, ?_⟩
    · have hi : i < 5 := by rw [← h1]; exact (List.getElem?_eq_some_iff.1 hu).1
      rw [← h2 i u hu]
      have n0 : k * 5 ≠ j * 5 + i := by omega
      have n1 : k * 5 + 1 ≠ j * 5 + i := by omega
      have n2 : k * 5 + 2 ≠ j * 5 + i := by omega
      have n3 : k * 5 + 3 ≠ j * 5 + i := by omega
      have n4 : k * 5 + 4 ≠ j * 5 + i := by omega
      rw [Array.getElem?_setIfInBounds_ne n4, Array.getElem?_setIfInBounds_ne n3, Array.getElem?_setIfInBounds_ne n2, Array.getElem?_setIfInBounds_ne n1, Array.getElem?_setIfInBounds_ne n0]
    · exact Foot.step (Foot.mono h3 (fun b hb => ⟨hb.1, hb.2.1, fun hlt => hb.2.2 (by omega)⟩)) (fun b hb _ => hfar b hb.1)

set_option maxRecDepth 100000 in
set_option maxHeartbeats 1000000 in
theorem subst_any (args : List Ty) (AA : Option Addr) (ca : Nat) (w0 : World) (hAA : Kd.C kTy w0 AA args.length args) (hca : args.length ≤ ca) (hok : ∀ x ∈ args, TyOk x) {t : Ty} (ht : TyOk t) : ∀ (A : Option Addr) (c : Nat) (w : World), Below w0.heap.size w0 w → Kd.C kTy w A t.f4.length t.f4 → t.f4.length ≤ c →
    Calls Try.prog 67 #[tyV t A c, .slice AA args.length ca] w fun e w' => ∃ A' c', e = .returned (tyV (substT args t) A' c') ∧ (substT args t).f4.length ≤ c' ∧ Kd.F kTy w' (fun b => w.heap.size ≤ b) A' (substT args t).f4.length (substT args t).f4 ∧ Below w.heap.size w w' := by
  induction ht with
  | mk t hlen hs ih =>
  intro A c w hbw h hc
  have IH := Lib.hid ih
  clear hs ih
  obtain ⟨f0, f1, f2, f3, l⟩ := t
  simp only [tyV] at *
  have HBW := Lib.hid hbw
  have HAA := Lib.hid hAA
  have ham : args.length ≤ 9223372036854775807 := hAA.2.1
  have HC := Lib.hid (fun (W : World) (hb : Below w.heap.size w W) => cloneTy_any l A c w W h hb hc hlen)
  have HLEN := Lib.hid hlen
  clear h hlen
  have hcs : (((f0 == 6) = false) ∨ ((f0 == 6) = true ∧ decide (0 ≤ f3) = false) ∨ ((f0 == 6) = true ∧ decide (0 ≤ f3) = true ∧ decide (f3 < (args.length : Int)) = false)) ∧ substT args ⟨f0, f1, f2, f3, l⟩ = ⟨f0, f1, f2, f3, l.map (substT args)⟩ ∨ (f0 = 6 ∧ 0 ≤ f3 ∧ f3 < (args.length : Int)) := by
    by_cases hp : f0 = 6 ∧ 0 ≤ f3 ∧ f3 < (args.length : Int)
    · exact .inr hp
    · refine .inl ⟨?_, by rw [substT, if_neg hp, substL_map]⟩
      by_cases h6 : f0 = 6
      · subst h6
        by_cases h3 : 0 ≤ f3
        · exact .inr (.inr ⟨rfl, decide_eq_true h3, decide_eq_false (fun h => hp ⟨rfl, h3, h⟩)⟩)
        · exact .inr (.inl ⟨rfl, decide_eq_false h3⟩)
      · exact .inl (by simpa using h6)
  have HB0 := Lib.hid (bel_alloc (bel_alloc (Below.refl w.heap.size w) (.cells #[.int .i64 f0, .string f1, .string f2, .int .i64 f3, .slice A l.length c] 29)) (.cells #[.int .i64 0, .string ⟨#[]⟩, .string ⟨#[]⟩, .int .i64 0, .slice none 0 0] 29))
  have HN0 := Lib.hid (blk_alloc (blk_new w (.cells #[.int .i64 f0, .string f1, .string f2, .int .i64 f3, .slice A l.length c] 29)) (.cells #[.int .i64 0, .string ⟨#[]⟩, .string ⟨#[]⟩, .int .i64 0, .slice none 0 0] 29))
  have HR0 := Lib.hid (show ((w.alloc (.cells #[.int .i64 f0, .string f1, .string f2, .int .i64 f3, .slice A l.length c] 29)).alloc (.cells #[.int .i64 0, .string ⟨#[]⟩, .string ⟨#[]⟩, .int .i64 0, .slice none 0 0] 29)).heap[w.heap.size + 1]? = some (.cells #[.int .i64 0, .string ⟨#[]⟩, .string ⟨#[]⟩, .int .i64 0, .slice none 0 0] 29 (0, 0)) by simpa using blk_new (w.alloc (.cells #[.int .i64 f0, .string f1, .string f2, .int .i64 f3, .slice A l.length c] 29)) (.cells #[.int .i64 0, .string ⟨#[]⟩, .string ⟨#[]⟩, .int .i64 0, .slice none 0 0] 29))
  rcases hcs with ⟨hcs, hsub⟩ | ⟨h6, h3, h4⟩
  rotate_left
  · subst h6
    have hs : substT args ⟨6, f1, f2, f3, l⟩ = rd_T29 args f3 := by rw [substT, if_pos ⟨rfl, h3, h4⟩]
    rw [hs]
    obtain ⟨ad, X4, e4, hA4, x0, x1, x2, x3, x4, lx, gx⟩ := at_T29 HAA.out f3 h3 h4
    have hmem : rd_T29 args f3 ∈ args := by
      unfold rd_T29
      rw [List.getD_eq_getElem?_getD, List.getElem?_eq_getElem (show f3.toNat < args.length by omega)]
      exact List.getElem_mem _
    have HOW := Lib.hid (fun (W : World) (hb : Below w0.heap.size w0 W) => own_any (hok _ hmem) X4 e4 W (Kd.C_below gx hb) lx)
    simp only [tyV] at HOW
    generalize rd_T29 args f3 = y at *
    subst hA4
    have hbl := bel_trans HBW.out HB0.out
    replace x0 := cell_later hbl x0
    replace x1 := cell_later hbl x1
    replace x2 := cell_later hbl x2
    replace x3 := cell_later hbl x3
    replace x4 := cell_later hbl x4
    have z2 : decide (0 ≤ f3) = true := decide_eq_true h3
    have z3 : decide (f3 < (args.length : Int)) = true := decide_eq_true h4
    have HBL := Lib.hid hbl
    clear hs hmem hbl gx lx HC HN0 IH hbw hAA hok
    go_enter Try.func67, Try.ntmps67
    go_wp2_with (fail)
    refine (HOW.out _ HBL.out).mono ?_
    rintro e w1 ⟨A', c', rfl, hc', hF, hb1⟩
    have HB1 := Lib.hid (bel_trans HB0.out hb1)
    have hr1 := blk_later hb1 HR0.out
    have HR1 := Lib.hid hr1
    have HF := Lib.hid hF
    have HCC := Lib.hid hc'
    have r0 : w1.cell? ⟨w.heap.size + 1, 0, none⟩ = some (.int .i64 0) := (blk_cell hr1 0).trans rfl
    have r1 : w1.cell? ⟨w.heap.size + 1, 1, none⟩ = some (.string ⟨#[]⟩) := (blk_cell hr1 1).trans rfl
    have r2 : w1.cell? ⟨w.heap.size + 1, 2, none⟩ = some (.string ⟨#[]⟩) := (blk_cell hr1 2).trans rfl
    have r3 : w1.cell? ⟨w.heap.size + 1, 3, none⟩ = some (.int .i64 0) := (blk_cell hr1 3).trans rfl
    have r4 : w1.cell? ⟨w.heap.size + 1, 4, none⟩ = some (.slice none 0 0) := (blk_cell hr1 4).trans rfl
    have g0 := blk_free hr1 0
    have g1 := blk_free hr1 1
    have g2 := blk_free hr1 2
    have g3 := blk_free hr1 3
    have g4 := blk_free hr1 4
    clear hb1 hr1 hF hc' HOW HB0 HR0 x0 x1 x2 x3 x4
    go_wp2_with (fail)
    have h2 := blk_set (blk_set (blk_set (blk_set (blk_set HR1.out 0 (.int .i64 y.f0)) 1 (.string y.f1)) 2 (.string y.f2)) 3 (.int .i64 y.f3)) 4 (.slice A' y.f4.length c')
    refine bodyPost_ret (results_cell_row rfl _ _ (w.heap.size + 1) 29 #[.int .i64 y.f0, .string y.f1, .string y.f2, .int .i64 y.f3, .slice A' y.f4.length c'] (0, 0) _ rfl (h2.trans rfl) Try.underlying29 rfl (sizeTy.trans rfl)) rfl ?_
    refine ⟨A', c', rfl, HCC.out, ?_, ?_⟩
    · refine Kd.F_mono (Kd.F_step HF.out (fun b hb _ => ?_)) (fun b hb => ?_)
      · simp only [World.alloc, Array.size_push] at hb
        have hne : b ≠ w.heap.size + 1 := by omega
        rw [blk_far _ _ _ _ _ hne, blk_far _ _ _ _ _ hne, blk_far _ _ _ _ _ hne, blk_far _ _ _ _ _ hne, blk_far _ _ _ _ _ hne]
      · simp only [World.alloc, Array.size_push] at hb
        omega
    · iterate 5 refine Below.setCell ?_ (by simp only; omega) _
      exact HB1.out
  rw [hsub]
  clear hsub hbw hAA hok
  rcases hcs with z1 | ⟨z1, z2⟩ | ⟨z1, z2, z3⟩
  all_goals
    go_enter Try.func67, Try.ntmps67
    go_wp2_with (fail)
    refine (HC.out _ HB0.out).mono ?_
    rintro e w1 ⟨v, rfl, hcl, hb1⟩
    have HB1 := Lib.hid (bel_trans HB0.out hb1)
    have HN1 := Lib.hid (blk_later hb1 HN0.out)
    have HR1 := Lib.hid (blk_later hb1 HR0.out)
    have HCL := Lib.hid (And.intro hcl hb1)
    have HB0X := HB0
    clear hcl hb1 HC HB0 HN0 HR0
    by_cases hn : 0 < l.length
    · obtain ⟨g, c', rfl, hc', hg, hrow⟩ := TyRow.of_clone HCL.out.1 HB0X.out HCL.out.2 hn
      have hg2 : w.heap.size + 2 ≤ g := by simpa using hg
      have HROW : Hid (TyRow w1 g w.heap.size (w.heap.size + 2) 0 (mix args l 0)) := Lib.hid (by rw [mix_zero]; simpa using hrow)
      have HG := Lib.hid hg2
      clear HCL hg hrow hg2
      go_wp2_with (fail)
      go_loopw [34] (fun iv wr => ∃ k : Nat, k ≤ l.length ∧ iv = .int .i64 k ∧ Hid (TyRow wr g w.heap.size (w.heap.size + 2) k (mix args l k)) ∧ Hid (Below w.heap.size w wr) ∧ Hid (wr.heap[w.heap.size]? = some (.cells #[.int .i64 f0, .string f1, .string f2, .int .i64 f3, .slice A l.length c] 29 (0, 0))) ∧ Hid (wr.heap[w.heap.size + 1]? = some (.cells #[.int .i64 0, .string ⟨#[]⟩, .string ⟨#[]⟩, .int .i64 0, .slice none 0 0] 29 (0, 0)))) (fun iv _ => l.length - (intOf iv).toNat)
      case atStart => exact ⟨0, Nat.zero_le _, rfl, HROW, HB1, HN1, HR1⟩
      case round =>
        obtain ⟨k, hk, rfl, HROW, HB, HN, HR⟩ := hrel
        by_cases hlt : k < l.length
        · obtain ⟨x, hx⟩ : ∃ x, l[k]? = some x := ⟨_, List.getElem?_eq_getElem hlt⟩
          obtain ⟨A4, c4, q0, q1, q2, q3, q4, l4, g4⟩ := HROW.out.get k x ((mix_get args l k hlt).trans hx)
          have hmem := List.mem_of_getElem? hx
          have HSUB := Lib.hid (IH.out x hmem A4 c4 (wr.alloc (.cells #[.int .i64 x.f0, .string x.f1, .string x.f2, .int .i64 x.f3, .slice A4 x.f4.length c4] 29)) (bel_trans HBW.out (bel_alloc HB.out _)) (Kd.C_below g4 (bel_alloc (Below.refl _ _) _)) l4)
          have e1 : 0 ≤ (k : Int) := by omega
          have e2 : (k : Int) < l.length := by omega
          have HXX := Lib.hid hx
          have hlb : l.length ≤ 140737488355328 := by have := HLEN.out; omega
          have HLT : Hid (k + 1 ≤ l.length) := Lib.hid hlt
          have HGL : Hid (g < wr.heap.size) := Lib.hid HROW.out.lt
          have HMS := Lib.hid (mix_set args l k x hx)
          have HMG := Lib.hid ((mix_get args l k hlt).trans hx)
          generalize substT args x = y at *
          clear g4 hmem hx
          obtain ⟨x0, x1, x2, x3, x4⟩ := x
          simp only at q0 q1 q2 q3 q4 l4 HSUB
          go_wp2_with (fail)
          refine HSUB.out.mono ?_
          rintro e w3 ⟨A5, c5, rfl, hc5, hF, hb3⟩
          have hb4 := bel_trans (bel_alloc (Below.refl wr.heap.size wr) (.cells #[.int .i64 x0, .string x1, .string x2, .int .i64 x3, .slice A4 x4.length c4] 29)) hb3
          have hrow := HROW.out.step (fun b hlt => hb4.block b hlt)
          obtain ⟨A6, c6, p0, p1, p2, p3, p4, _, _⟩ := hrow.get k _ HMG.out
          have f0' := hrow.free (k * 5)
          have f1' := hrow.free (k * 5 + 1)
          have f2' := hrow.free (k * 5 + 2)
          have f3' := hrow.free (k * 5 + 3)
          have f4' := hrow.free (k * 5 + 4)
          have hFK : Kd.FK kTy w3 (fun b => b ≠ g ∧ w.heap.size + 2 ≤ b) y [.int .i64 y.f0, .string y.f1, .string y.f2, .int .i64 y.f3, .slice A5 y.f4.length c5] := by
            intro W' hW
            refine k29_mk W' y hc5 (hF W' (fun b hb hlt => hW b ?_ hlt))
            have h1 := HGL.out
            have h2 := HG.out
            simp only [World.alloc, Array.size_push] at hb
            omega
          have hput := hrow.putX (by rw [mix_len]; exact hlt) _ HMG.out y _ _ _ _ _ hFK
          rw [HMS.out] at hput
          have HPUT := Lib.hid hput
          clear hput
          have HB4 := Lib.hid (bel_trans HB.out hb4)
          have HN4 := Lib.hid (blk_later hb4 HN.out)
          have HR4 := Lib.hid (blk_later hb4 HR.out)
          simp only at p0 p1 p2 p3 p4
          clear hb3 hb4 hrow hFK hF HSUB HROW HB HN HR q0 q1 q2 q3 q4
          go_wp2_with (fail)
          go_roundw
          case rel =>
            have h2 := HG.out
            refine ⟨k + 1, HLT.out, by go_num, HPUT, Lib.hid ?_, Lib.hid ?_, Lib.hid ?_⟩
            · iterate 5 refine Below.setCell ?_ (by simp only; omega) _
              exact HB4.out
            · rw [blk_far _ _ _ _ _ (by omega), blk_far _ _ _ _ _ (by omega), blk_far _ _ _ _ _ (by omega), blk_far _ _ _ _ _ (by omega), blk_far _ _ _ _ _ (by omega)]
              exact HN4.out
            · rw [blk_far _ _ _ _ _ (by omega), blk_far _ _ _ _ _ (by omega), blk_far _ _ _ _ _ (by omega), blk_far _ _ _ _ _ (by omega), blk_far _ _ _ _ _ (by omega)]
              exact HR4.out
          case measure =>
            have := HLT.out
            simp [intOf]
            omega
        · obtain rfl : k = l.length := by omega
          have q0 : wr.cell? ⟨w.heap.size, 0, none⟩ = some (.int .i64 f0) := (blk_cell HN.out 0).trans rfl
          have q1 : wr.cell? ⟨w.heap.size, 1, none⟩ = some (.string f1) := (blk_cell HN.out 1).trans rfl
          have q2 : wr.cell? ⟨w.heap.size, 2, none⟩ = some (.string f2) := (blk_cell HN.out 2).trans rfl
          have q3 : wr.cell? ⟨w.heap.size, 3, none⟩ = some (.int .i64 f3) := (blk_cell HN.out 3).trans rfl
          have q4 : wr.cell? ⟨w.heap.size, 4, none⟩ = some (.slice A l.length c) := (blk_cell HN.out 4).trans rfl
          have fr4 := blk_free HN.out 4
          have r0 : wr.cell? ⟨w.heap.size + 1, 0, none⟩ = some (.int .i64 0) := (blk_cell HR.out 0).trans rfl
          have r1 : wr.cell? ⟨w.heap.size + 1, 1, none⟩ = some (.string ⟨#[]⟩) := (blk_cell HR.out 1).trans rfl
          have r2 : wr.cell? ⟨w.heap.size + 1, 2, none⟩ = some (.string ⟨#[]⟩) := (blk_cell HR.out 2).trans rfl
          have r3 : wr.cell? ⟨w.heap.size + 1, 3, none⟩ = some (.int .i64 0) := (blk_cell HR.out 3).trans rfl
          have r4 : wr.cell? ⟨w.heap.size + 1, 4, none⟩ = some (.slice none 0 0) := (blk_cell HR.out 4).trans rfl
          have g0 := blk_free HR.out 0
          have g1 := blk_free HR.out 1
          have g2 := blk_free HR.out 2
          have g3 := blk_free HR.out 3
          have g4 := blk_free HR.out 4
          have HC5 := Lib.hid hc'
          clear HN1 HR1 HB1
          go_wp2_with (fail)
          refine subst_end HR.out rfl rfl ?_
          refine ⟨some ⟨g, 0, none⟩, c', by simp, by simpa using HC5.out, ?_, ?_⟩
          · have hrl := HROW.out
            rw [mix_all] at hrl
            have hFmap := TyRow.F (l := l.map (substT args)) (by rw [List.length_map]; exact hrl) HG.out (by rw [List.length_map]; have := HLEN.out; omega)
            refine Kd.F_mono (Kd.F_step hFmap  (fun b hb _ => six_far _ _ _ _ _ _ _ _ b (by omega) (by omega))) (fun b hb => by omega)
          · iterate 6 refine Below.setCell ?_ (by simp only; omega) _
            exact HB.out
    · have hl0 : l = [] := List.eq_nil_of_length_eq_zero (by omega)
      subst hl0
      have hv : ∃ A' c', v = .slice A' 0 c' := by
        rcases HCL.out.1 with ⟨_, rfl, _⟩ | ⟨css, _, _, _, hown⟩
        · exact ⟨none, 0, rfl⟩
        · obtain ⟨A', c', rfl, _⟩ := own_slice hown
          exact ⟨A', c', rfl⟩
      obtain ⟨A', c', rfl⟩ := hv
      have q0 : w1.cell? ⟨w.heap.size, 0, none⟩ = some (.int .i64 f0) := (blk_cell HN1.out 0).trans rfl
      have q1 : w1.cell? ⟨w.heap.size, 1, none⟩ = some (.string f1) := (blk_cell HN1.out 1).trans rfl
      have q2 : w1.cell? ⟨w.heap.size, 2, none⟩ = some (.string f2) := (blk_cell HN1.out 2).trans rfl
      have q3 : w1.cell? ⟨w.heap.size, 3, none⟩ = some (.int .i64 f3) := (blk_cell HN1.out 3).trans rfl
      have q4 : w1.cell? ⟨w.heap.size, 4, none⟩ = some (.slice A 0 c) := (blk_cell HN1.out 4).trans rfl
      have fr4 := blk_free HN1.out 4
      have r0 : w1.cell? ⟨w.heap.size + 1, 0, none⟩ = some (.int .i64 0) := (blk_cell HR1.out 0).trans rfl
      have r1 : w1.cell? ⟨w.heap.size + 1, 1, none⟩ = some (.string ⟨#[]⟩) := (blk_cell HR1.out 1).trans rfl
      have r2 : w1.cell? ⟨w.heap.size + 1, 2, none⟩ = some (.string ⟨#[]⟩) := (blk_cell HR1.out 2).trans rfl
      have r3 : w1.cell? ⟨w.heap.size + 1, 3, none⟩ = some (.int .i64 0) := (blk_cell HR1.out 3).trans rfl
      have r4 : w1.cell? ⟨w.heap.size + 1, 4, none⟩ = some (.slice none 0 0) := (blk_cell HR1.out 4).trans rfl
      have g0 := blk_free HR1.out 0
      have g1 := blk_free HR1.out 1
      have g2 := blk_free HR1.out 2
      have g3 := blk_free HR1.out 3
      have g4 := blk_free HR1.out 4
      clear HCL
      go_wp2_with (fail)
      go_loopw [34] (fun iv wr => iv = .int .i64 0 ∧ wr = w1) (fun _ _ => 0)
      case atStart => exact ⟨rfl, rfl⟩
      case round =>
        obtain ⟨rfl, rfl⟩ := hrel
        go_wp2_with (fail)
        refine subst_end HR1.out rfl rfl ?_
        refine ⟨A', c', rfl, Nat.zero_le _, ?_, ?_⟩
        · intro W' _
          exact ⟨rfl, by simp, fun h => absurd h (by simp)⟩
        · iterate 6 refine Below.setCell ?_ (by simp only; omega) _
          exact HB1.out
end Go.Proofs.Ytbhagjhhgmmcgaa
