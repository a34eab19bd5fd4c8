/- The law's own awake. -/
import Derived.Test.YtbhagjhhgmmcgaaTyO
namespace Go.Proofs.Ytbhagjhhgmmcgaa
open Go.RowKit PRef Go.Proofs.YtbhagjhhgmmcgaaW.PrintWords
set_option linter.unusedVariables false

theorem ok_numT : TyOk numT := .mk _ (by decide) (by simp [numT])
theorem ok_boolT : TyOk boolT := .mk _ (by decide) (by simp [boolT])
theorem ok_noneT : TyOk noneT := .mk _ (by decide) (by simp [noneT])
theorem ok_mM : mM.f1.length * 72 ≤ 140737488355328 ∧ (∀ p ∈ mM.f1, TyOk p) ∧ TyOk mM.f2 := ⟨by decide, by intro p hp; simp only [mM, List.mem_singleton] at hp; subst hp; exact ok_numT, ok_boolT⟩
theorem ok_mN : mN.f1.length * 72 ≤ 140737488355328 ∧ (∀ p ∈ mN.f1, TyOk p) ∧ TyOk mN.f2 := ⟨by decide, by simp [mN], ok_noneT⟩
theorem wW_ok : WOk wW := by
  intro p hp d hd
  simp only [wW, List.mem_singleton] at hp
  subst hp
  simp only [List.mem_cons, List.not_mem_nil, or_false] at hd
  rcases hd with rfl | rfl | rfl
  · exact ⟨by decide, by decide, by intro f hf; simp only [dT, List.mem_singleton] at hf; subst hf; exact ok_numT, by intro m hm; simp only [dT, List.mem_singleton] at hm; subst hm; exact ok_mM⟩
  · exact ⟨by decide, by decide, by simp [dI], by intro m hm; simp only [dI, List.mem_singleton] at hm; subst hm; exact ok_mM⟩
  · exact ⟨by decide, by decide, by simp [dJ], by intro m hm; simp only [dJ, List.mem_singleton] at hm; subst hm; exact ok_mN⟩

abbrev nT : Ty := namedT ⟨#[97]⟩ ⟨#[84]⟩
abbrev nI : Ty := namedT ⟨#[97]⟩ ⟨#[73]⟩
abbrev nJ : Ty := namedT ⟨#[97]⟩ ⟨#[74]⟩
abbrev p0 : Ty := ⟨6, ⟨#[]⟩, ⟨#[]⟩, 0, []⟩
theorem aw1 : meetsP wW wB nT nI = true := by decide
theorem aw2 : meetsP wW wB nT nJ = false := by decide
theorem aw3 : assignP wW wB nT nI = true := by decide
theorem aw4 : assignP wW wB nI nT = false := by decide
theorem aw5 : fieldP wW nT ⟨#[102]⟩ = some ⟨⟨#[102]⟩, numT⟩ := by rfl
theorem aw6 : methodsP wW wB p0 = [mM] := by rfl
theorem aw7 : alikeT zTy numT = true := by decide

theorem bcell {W w1 : World} (hb : Below W.heap.size W w1) : (∀ b o, b < W.heap.size → w1.cell? ⟨b, o, none⟩ = W.cell? ⟨b, o, none⟩) ∧ (∀ b o, b < W.heap.size → w1.frozen? ⟨b, o, none⟩ = W.frozen? ⟨b, o, none⟩) :=
  ⟨fun b o h => hb.cell (p := ⟨b, o, none⟩) h, fun b o h => hb.frozen (p := ⟨b, o, none⟩) h⟩
theorem world_lit (w : World) : Calls Try.prog 46 #[] w fun e w' => ∃ a : ScA, e = .returned (.agg #[.slice a.AW 1 a.cW, .slice a.AI a.nI a.cI, .slice a.AN a.nN a.cN, .slice a.AB 1 a.cB, .slice a.AV a.nV a.cV]) ∧ ScC a wW wB w' ∧ Below w.heap.size w w' := world_any w
def ScBox (a : ScA) (g : Nat) (w wx : World) : Prop := wx.heap[g]? = some (.cells #[.slice a.AW 1 a.cW, .slice a.AI a.nI a.cI, .slice a.AN a.nN a.cN, .slice a.AB 1 a.cB, .slice a.AV a.nV a.cV] 27 (0, 0)) ∧ ScC a wW wB wx ∧ Below w.heap.size w wx
theorem ScBox.later {a : ScA} {g : Nat} {w wx wy : World} (h : ScBox a g w wx) (hb : Below wx.heap.size wx wy) : ScBox a g w wy := ⟨blk_later hb h.1, h.2.1.later hb, bel_trans h.2.2 hb⟩
theorem aw_meets1 {a : ScA} {W0 : World} (h : ScC a wW wB W0) (W : World) (hb : Below W0.heap.size W0 W) : Calls Try.prog 29 #[.agg #[.slice a.AW 1 a.cW, .slice a.AI a.nI a.cI, .slice a.AN a.nN a.cN, .slice a.AB 1 a.cB, .slice a.AV a.nV a.cV], .agg #[.int .i64 4, .string ⟨#[97]⟩, .string ⟨#[84]⟩, .int .i64 0, .slice none 0 0], .agg #[.int .i64 4, .string ⟨#[97]⟩, .string ⟨#[73]⟩, .int .i64 0, .slice none 0 0]] W fun e w' => e = .returned (.bool true) ∧ Below W.heap.size W w' :=
  (meets_any a wW wB nT nI none none 0 0 W (h.later hb) wW_ok (C_nil' _ _ _) (Nat.le_refl 0) (C_nil' _ _ _) (Nat.le_refl 0)).mono fun e w' ⟨he, hb⟩ => ⟨by rw [he, aw1], hb⟩
theorem aw_meets2 {a : ScA} {W0 : World} (h : ScC a wW wB W0) (W : World) (hb : Below W0.heap.size W0 W) : Calls Try.prog 29 #[.agg #[.slice a.AW 1 a.cW, .slice a.AI a.nI a.cI, .slice a.AN a.nN a.cN, .slice a.AB 1 a.cB, .slice a.AV a.nV a.cV], .agg #[.int .i64 4, .string ⟨#[97]⟩, .string ⟨#[84]⟩, .int .i64 0, .slice none 0 0], .agg #[.int .i64 4, .string ⟨#[97]⟩, .string ⟨#[74]⟩, .int .i64 0, .slice none 0 0]] W fun e w' => e = .returned (.bool false) ∧ Below W.heap.size W w' :=
  (meets_any a wW wB nT nJ none none 0 0 W (h.later hb) wW_ok (C_nil' _ _ _) (Nat.le_refl 0) (C_nil' _ _ _) (Nat.le_refl 0)).mono fun e w' ⟨he, hb⟩ => ⟨by rw [he, aw2], hb⟩
theorem aw_assign1 {a : ScA} {W0 : World} (h : ScC a wW wB W0) (W : World) (hb : Below W0.heap.size W0 W) : Calls Try.prog 31 #[.agg #[.slice a.AW 1 a.cW, .slice a.AI a.nI a.cI, .slice a.AN a.nN a.cN, .slice a.AB 1 a.cB, .slice a.AV a.nV a.cV], .agg #[.int .i64 4, .string ⟨#[97]⟩, .string ⟨#[84]⟩, .int .i64 0, .slice none 0 0], .agg #[.int .i64 4, .string ⟨#[97]⟩, .string ⟨#[73]⟩, .int .i64 0, .slice none 0 0]] W fun e w' => e = .returned (.bool true) ∧ Below W.heap.size W w' :=
  (assign_any a wW wB nT nI none none 0 0 W (h.later hb) wW_ok (C_nil' _ _ _) (Nat.le_refl 0) (C_nil' _ _ _) (Nat.le_refl 0)).mono fun e w' ⟨he, hb⟩ => ⟨by rw [he, aw3], hb⟩
theorem aw_assign2 {a : ScA} {W0 : World} (h : ScC a wW wB W0) (W : World) (hb : Below W0.heap.size W0 W) : Calls Try.prog 31 #[.agg #[.slice a.AW 1 a.cW, .slice a.AI a.nI a.cI, .slice a.AN a.nN a.cN, .slice a.AB 1 a.cB, .slice a.AV a.nV a.cV], .agg #[.int .i64 4, .string ⟨#[97]⟩, .string ⟨#[73]⟩, .int .i64 0, .slice none 0 0], .agg #[.int .i64 4, .string ⟨#[97]⟩, .string ⟨#[84]⟩, .int .i64 0, .slice none 0 0]] W fun e w' => e = .returned (.bool false) ∧ Below W.heap.size W w' :=
  (assign_any a wW wB nI nT none none 0 0 W (h.later hb) wW_ok (C_nil' _ _ _) (Nat.le_refl 0) (C_nil' _ _ _) (Nat.le_refl 0)).mono fun e w' ⟨he, hb⟩ => ⟨by rw [he, aw4], hb⟩
theorem aw_field {a : ScA} {W0 : World} (h : ScC a wW wB W0) (W : World) (hb : Below W0.heap.size W0 W) : Calls Try.prog 18 #[.agg #[.slice a.AW 1 a.cW, .slice a.AI a.nI a.cI, .slice a.AN a.nN a.cN, .slice a.AB 1 a.cB, .slice a.AV a.nV a.cV], .agg #[.int .i64 4, .string ⟨#[97]⟩, .string ⟨#[84]⟩, .int .i64 0, .slice none 0 0], .string ⟨#[102]⟩] W fun e w' => ∃ A' c', e = .returned (.tuple #[.agg #[.int .i64 1, .string ⟨#[]⟩, .string ⟨#[]⟩, .int .i64 0, .slice A' 0 c'], .bool true]) ∧ Below W.heap.size W w' :=
  (field_any a wW wB nT none 0 ⟨#[102]⟩ W (h.later hb) wW_ok).mono fun e w' ⟨A', c', he, _, _, hb⟩ => ⟨A', c', by rw [he, aw5]; rfl, hb⟩
theorem aw_methods {a : ScA} {W0 : World} (h : ScC a wW wB W0) (W : World) (hb : Below W0.heap.size W0 W) : Calls Try.prog 23 #[.agg #[.slice a.AW 1 a.cW, .slice a.AI a.nI a.cI, .slice a.AN a.nN a.cN, .slice a.AB 1 a.cB, .slice a.AV a.nV a.cV], .agg #[.int .i64 6, .string ⟨#[]⟩, .string ⟨#[]⟩, .int .i64 0, .slice none 0 0]] W fun e w' => ∃ A' c', e = .returned (.slice A' 1 c') ∧ 1 ≤ c' ∧ Kd.C kMth w' A' 1 [mM] ∧ Below W.heap.size W w' := by
  have h1 := methods_any a wW wB p0 none 0 W (h.later hb) wW_ok (C_nil' _ _ _) (Nat.le_refl 0)
  rw [aw6] at h1
  exact h1.mono fun e w' h => h
theorem aw_alike (W : World) : Calls Try.prog 27 #[.agg #[.int .i64 0, .string ⟨#[]⟩, .string ⟨#[]⟩, .int .i64 0, .slice none 0 0], .agg #[.int .i64 1, .string ⟨#[]⟩, .string ⟨#[]⟩, .int .i64 0, .slice none 0 0]] W fun e w' => e = .returned (.bool true) ∧ Below W.heap.size W w' := by
  have h1 := alike_any (tyAll zTy) numT none none 0 0 W (C_nil' _ _ _) (Nat.le_refl 0) (C_nil' _ _ _) (Nat.le_refl 0)
  rw [aw7] at h1
  exact h1.mono fun e w' h => h

set_option maxRecDepth 100000 in
set_option maxHeartbeats 4000000 in
theorem awake_any (w : World) : Calls Try.prog 14 #[] w fun e w' => e = .returned (.bool true) ∧ Below w.heap.size w w' := by
  go_enter Try.func14, Try.ntmps14
  go_wp2_with (fail)
  refine (world_lit _).mono ?_
  rintro e w1 ⟨a, rfl, hC, hb⟩
  have HS : Hid (ScBox a w1.heap.size w (w1.alloc (.cells #[.slice a.AW 1 a.cW, .slice a.AI a.nI a.cI, .slice a.AN a.nN a.cN, .slice a.AB 1 a.cB, .slice a.AV a.nV a.cV] 27))) := Lib.hid ⟨blk_new w1 _, hC.later (bel_alloc (Below.refl _ _) _), bel_alloc hb _⟩
  clear hC hb
  go_wp2_with (fail)
  generalize w1.alloc (.cells #[.slice a.AW 1 a.cW, .slice a.AI a.nI a.cI, .slice a.AN a.nN a.cN, .slice a.AB 1 a.cB, .slice a.AV a.nV a.cV] 27) = W1 at *
  generalize w1.heap.size = g at *
  go_cut [2] (fun s wx => s = .bool true ∧ Hid (ScBox a g w wx))
  case first =>
    have s0 := (blk_cell HS.out.1 0).trans rfl
    have s1 := (blk_cell HS.out.1 1).trans rfl
    have s2 := (blk_cell HS.out.1 2).trans rfl
    have s3 := (blk_cell HS.out.1 3).trans rfl
    have s4 := (blk_cell HS.out.1 4).trans rfl
    have hg0 := blk_lt HS.out.1
    have hg1 := Nat.lt_succ_of_lt hg0
    have hg2 := Nat.lt_succ_of_lt hg1
    have HC := Lib.hid (aw_meets1 HS.out.2.1)
    go_region_law (first | (go_simp; go_at_call 47; refine (named_c _ _ _).mono ?_; rintro e w3 ⟨rfl, rfl⟩) | (go_simp; go_at_call 29; refine (HC.out _ (by repeat (first | exact Below.refl _ _ | refine bel_alloc ?_ _ | refine bel_drew ?_))).mono ?_; rintro e w5 ⟨rfl, hb5⟩))
    all_goals
      go_wp2_with (fail)
      go_meet
      exact ⟨rfl, Lib.hid (HS.out.later (by first | exact bel_drew (bel_trans (by repeat (first | exact Below.refl _ _ | refine bel_alloc ?_ _ | refine bel_drew ?_)) hb5) | exact bel_trans (by repeat (first | exact Below.refl _ _ | refine bel_alloc ?_ _ | refine bel_drew ?_)) hb5))⟩
  case rest =>
  obtain ⟨rfl, HS⟩ := hcut
  rename_i W2
  go_wp2_with (fail)
  go_cut [3] (fun s wx => s = .bool false ∧ Hid (ScBox a g w wx))
  case first =>
    have s0 := (blk_cell HS.out.1 0).trans rfl
    have s1 := (blk_cell HS.out.1 1).trans rfl
    have s2 := (blk_cell HS.out.1 2).trans rfl
    have s3 := (blk_cell HS.out.1 3).trans rfl
    have s4 := (blk_cell HS.out.1 4).trans rfl
    have hg0 := blk_lt HS.out.1
    have hg1 := Nat.lt_succ_of_lt hg0
    have hg2 := Nat.lt_succ_of_lt hg1
    have HC := Lib.hid (aw_meets2 HS.out.2.1)
    go_region_law (first | (go_simp; go_at_call 47; refine (named_c _ _ _).mono ?_; rintro e w3 ⟨rfl, rfl⟩) | (go_simp; go_at_call 29; refine (HC.out _ (by repeat (first | exact Below.refl _ _ | refine bel_alloc ?_ _ | refine bel_drew ?_))).mono ?_; rintro e w5 ⟨rfl, hb5⟩))
    all_goals
      go_wp2_with (fail)
      go_meet
      exact ⟨rfl, Lib.hid (HS.out.later (by first | exact bel_drew (bel_trans (by repeat (first | exact Below.refl _ _ | refine bel_alloc ?_ _ | refine bel_drew ?_)) hb5) | exact bel_trans (by repeat (first | exact Below.refl _ _ | refine bel_alloc ?_ _ | refine bel_drew ?_)) hb5))⟩
  case rest =>
  obtain ⟨rfl, HS⟩ := hcut
  rename_i W3
  go_wp2_with (fail)
  go_cut [4] (fun s wx => s = .bool true ∧ Hid (ScBox a g w wx))
  case first =>
    have s0 := (blk_cell HS.out.1 0).trans rfl
    have s1 := (blk_cell HS.out.1 1).trans rfl
    have s2 := (blk_cell HS.out.1 2).trans rfl
    have s3 := (blk_cell HS.out.1 3).trans rfl
    have s4 := (blk_cell HS.out.1 4).trans rfl
    have hg0 := blk_lt HS.out.1
    have hg1 := Nat.lt_succ_of_lt hg0
    have hg2 := Nat.lt_succ_of_lt hg1
    have HC := Lib.hid (aw_assign1 HS.out.2.1)
    go_region_law (first | (go_simp; go_at_call 47; refine (named_c _ _ _).mono ?_; rintro e w3 ⟨rfl, rfl⟩) | (go_simp; go_at_call 31; refine (HC.out _ (by repeat (first | exact Below.refl _ _ | refine bel_alloc ?_ _ | refine bel_drew ?_))).mono ?_; rintro e w5 ⟨rfl, hb5⟩))
    all_goals
      go_wp2_with (fail)
      go_meet
      exact ⟨rfl, Lib.hid (HS.out.later (by first | exact bel_drew (bel_trans (by repeat (first | exact Below.refl _ _ | refine bel_alloc ?_ _ | refine bel_drew ?_)) hb5) | exact bel_trans (by repeat (first | exact Below.refl _ _ | refine bel_alloc ?_ _ | refine bel_drew ?_)) hb5))⟩
  case rest =>
  obtain ⟨rfl, HS⟩ := hcut
  rename_i W4
  go_wp2_with (fail)
  go_cut [5] (fun s wx => s = .bool false ∧ Hid (ScBox a g w wx))
  case first =>
    have s0 := (blk_cell HS.out.1 0).trans rfl
    have s1 := (blk_cell HS.out.1 1).trans rfl
    have s2 := (blk_cell HS.out.1 2).trans rfl
    have s3 := (blk_cell HS.out.1 3).trans rfl
    have s4 := (blk_cell HS.out.1 4).trans rfl
    have hg0 := blk_lt HS.out.1
    have hg1 := Nat.lt_succ_of_lt hg0
    have hg2 := Nat.lt_succ_of_lt hg1
    have HC := Lib.hid (aw_assign2 HS.out.2.1)
    go_region_law (first | (go_simp; go_at_call 47; refine (named_c _ _ _).mono ?_; rintro e w3 ⟨rfl, rfl⟩) | (go_simp; go_at_call 31; refine (HC.out _ (by repeat (first | exact Below.refl _ _ | refine bel_alloc ?_ _ | refine bel_drew ?_))).mono ?_; rintro e w5 ⟨rfl, hb5⟩))
    all_goals
      go_wp2_with (fail)
      go_meet
      exact ⟨rfl, Lib.hid (HS.out.later (by first | exact bel_drew (bel_trans (by repeat (first | exact Below.refl _ _ | refine bel_alloc ?_ _ | refine bel_drew ?_)) hb5) | exact bel_trans (by repeat (first | exact Below.refl _ _ | refine bel_alloc ?_ _ | refine bel_drew ?_)) hb5))⟩
  case rest =>
  obtain ⟨rfl, HS⟩ := hcut
  rename_i W5
  go_wp2_with (fail)
  go_cut [6, 7] (fun p v wx => v = .bool true ∧ ∃ (h : Nat) (A' : Option Addr) (c' : Nat), p = .pointer (some ⟨h, 0, none⟩) ∧ Hid (wx.heap[h]? = some (.cells #[.int .i64 1, .string ⟨#[]⟩, .string ⟨#[]⟩, .int .i64 0, .slice A' 0 c'] 29 (0, 0))) ∧ Hid (ScBox a g w wx))
  case first =>
    have s0 := (blk_cell HS.out.1 0).trans rfl
    have s1 := (blk_cell HS.out.1 1).trans rfl
    have s2 := (blk_cell HS.out.1 2).trans rfl
    have s3 := (blk_cell HS.out.1 3).trans rfl
    have s4 := (blk_cell HS.out.1 4).trans rfl
    have hg0 := blk_lt HS.out.1
    have hg1 := Nat.lt_succ_of_lt hg0
    have hg2 := Nat.lt_succ_of_lt hg1
    have HC := Lib.hid (aw_field HS.out.2.1)
    go_region_law (first | (go_simp; go_at_call 47; refine (named_c _ _ _).mono ?_; rintro e w3 ⟨rfl, rfl⟩) | (go_simp; go_at_call 18; refine (HC.out _ (by repeat (first | exact Below.refl _ _ | refine bel_alloc ?_ _ | refine bel_drew ?_))).mono ?_; rintro e w5 ⟨A', c', rfl, hb5⟩; obtain ⟨hc5, hf5⟩ := bcell hb5))
    all_goals
      go_wp2_with (fail)
      go_meet
      first
        | with_reducible exact ⟨rfl, _, _, _, rfl, Lib.hid (blk_new w5 _), Lib.hid (HS.out.later (bel_alloc (bel_trans (by repeat (first | exact Below.refl _ _ | refine bel_alloc ?_ _ | refine bel_drew ?_)) hb5) _))⟩
        | with_reducible exact ⟨rfl, _, _, _, rfl, Lib.hid (row5 _ _ _ _ _ (blk_later hb5 (by first | exact blk_drew' (blk_new2 rfl _ _) | exact blk_drew' (blk_alloc (blk_new1 rfl _) _) | exact blk_new1 rfl _ | exact blk_drew' (blk_new1 rfl _) | exact blk_new2 rfl _ _ | exact blk_alloc (blk_new1 rfl _) _))), Lib.hid (HS.out.later (bel5 (bel_trans (by repeat (first | exact Below.refl _ _ | refine bel_alloc ?_ _ | refine bel_drew ?_)) hb5) (by first | exact Nat.le_refl _ | exact Nat.le_add_right _ _) _ _ _ _ _))⟩
  case rest =>
  obtain ⟨rfl, h, A6, c6, rfl, HF, HS⟩ := hcut
  rename_i W6
  have s0 := (blk_cell HS.out.1 0).trans rfl
  have s1 := (blk_cell HS.out.1 1).trans rfl
  have s2 := (blk_cell HS.out.1 2).trans rfl
  have s3 := (blk_cell HS.out.1 3).trans rfl
  have s4 := (blk_cell HS.out.1 4).trans rfl
  go_wp2_with (fail)
  refine (aw_methods HS.out.2.1 _ (Below.refl _ _)).mono ?_
  rintro e w8 ⟨A8, c8, rfl, hc8, hC8, hb8⟩
  obtain ⟨ad, A9, c9, A10, c10, rfl, x0, _⟩ := at_T50 hC8 0 (by decide) (by decide)
  have x0' : w8.cell? ad = some (.string ⟨#[109]⟩) := by rw [← Addr.add_zero' ad]; exact x0
  have y0 := (blk_cell (blk_later hb8 HF.out) 0).trans rfl
  have HB8 := Lib.hid (bel_trans HS.out.2.2 hb8)
  clear s0 s1 s2 s3 s4 hb8 hC8 x0
  go_wp2_with (fail)
  refine (num_c _).mono ?_
  rintro e w9 ⟨rfl, rfl⟩
  go_wp2_with (fail)
  refine (aw_alike _).mono ?_
  rintro e w10 ⟨rfl, hb10⟩
  have HB10 := Lib.hid (bel_trans (bel_alloc HB8.out _) hb10)
  clear hb10
  go_wp2_with (fail)
  go_ret
  exact ⟨rfl, HB10.out⟩
end Go.Proofs.Ytbhagjhhgmmcgaa
