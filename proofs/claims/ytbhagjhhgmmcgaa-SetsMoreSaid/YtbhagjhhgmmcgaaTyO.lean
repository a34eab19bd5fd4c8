/- The law's own scope. -/
import Derived.Test.YtbhagjhhgmmcgaaTyN
import Derived.Deep.DeepCutAuto
import Derived.Deep.RegionHeld3
namespace Go.Proofs.Ytbhagjhhgmmcgaa
open Go.RowKit PRef Go.Proofs.YtbhagjhhgmmcgaaW.PrintWords
set_option linter.unusedVariables false

/-- A row of one element, in a block of its own. -/
theorem C_one {α : Type} {d : Kd α} {T : TypeId} {W : World} {g : Nat} {cur : Array Value} (x : α) (cs : List Value) (h : W.heap[g]? = some (.cells cur T (0, 0))) (hK : d.K W x cs) (hl : cs.length = d.sz) (he : cur = cs.toArray) : Kd.C d W (some ⟨g, 0, none⟩) 1 [x] := by
  subst he
  refine ⟨rfl, by decide, fun _ => ⟨_, rfl, fun j p hj => ?_⟩⟩
  rcases j with _ | j
  · obtain rfl : x = p := by simpa using hj
    refine ⟨cs, hl, hK, fun i u hu => ?_⟩
    rw [Addr.add_lit, Nat.zero_mul, Nat.zero_add, Nat.zero_add, blk_cell h]
    simpa using hu
  · simp at hj
theorem blk_newN (W : World) (o : Obj) (n : Nat) (h : W.heap.size = n) : (W.alloc o).heap[n]? = some o := by subst h; exact blk_new W o
theorem blk_drew' {W : World} {b : Nat} {o : Obj} (h : W.heap[b]? = some o) : W.drew.heap[b]? = some o := h
theorem row5 {W : World} {b : Nat} {T : TypeId} {x0 x1 x2 x3 x4 : Value} (v0 v1 v2 v3 v4 : Value) (h : W.heap[b]? = some (.cells #[x0, x1, x2, x3, x4] T (0, 0))) : (((((W.setCell ⟨b, 0, none⟩ v0).setCell ⟨b, 1, none⟩ v1).setCell ⟨b, 2, none⟩ v2).setCell ⟨b, 3, none⟩ v3).setCell ⟨b, 4, none⟩ v4).heap[b]? = some (.cells #[v0, v1, v2, v3, v4] T (0, 0)) :=
  (blk_set (blk_set (blk_set (blk_set (blk_set h 0 v0) 1 v1) 2 v2) 3 v3) 4 v4).trans (by simp)
theorem keep5 {W : World} {b c : Nat} {o : Obj} (v0 v1 v2 v3 v4 : Value) (h : W.heap[c]? = some o) (hn : c ≠ b) : (((((W.setCell ⟨b, 0, none⟩ v0).setCell ⟨b, 1, none⟩ v1).setCell ⟨b, 2, none⟩ v2).setCell ⟨b, 3, none⟩ v3).setCell ⟨b, 4, none⟩ v4).heap[c]? = some o := by
  rw [blk_far _ _ _ _ _ hn, blk_far _ _ _ _ _ hn, blk_far _ _ _ _ _ hn, blk_far _ _ _ _ _ hn, blk_far _ _ _ _ _ hn]
  exact h
theorem info27s : (Try.prog.info? 27).map (·.size) = some 5 := by kernel_rfl
def numT : Ty := ⟨1, ⟨#[]⟩, ⟨#[]⟩, 0, []⟩
def boolT : Ty := ⟨2, ⟨#[]⟩, ⟨#[]⟩, 0, []⟩
def noneT : Ty := ⟨7, ⟨#[]⟩, ⟨#[]⟩, 0, []⟩
def namedT (p n : ByteArray) : Ty := ⟨4, p, n, 0, []⟩
def mM : Mth := ⟨⟨#[109]⟩, [numT], boolT⟩
def mN : Mth := ⟨⟨#[110]⟩, [], noneT⟩
def dT : Dcl := ⟨⟨#[84]⟩, true, [⟨⟨#[102]⟩, numT⟩], [mM]⟩
def dI : Dcl := ⟨⟨#[73]⟩, false, [], [mM]⟩
def dJ : Dcl := ⟨⟨#[74]⟩, false, [], [mN]⟩
def wW : List Ifc := [⟨⟨#[97]⟩, [dT, dI, dJ], []⟩]
def wB : List Ty := [namedT ⟨#[97]⟩ ⟨#[73]⟩]

theorem C_nil' {α : Type} (d : Kd α) (W : World) (A : Option Addr) : Kd.C d W A ([] : List α).length [] := ⟨rfl, by simp, fun h => by simp at h⟩
theorem num_K (W : World) : kTy.K W numT [.int .i64 1, .string ⟨#[]⟩, .string ⟨#[]⟩, .int .i64 0, .slice none 0 0] := k29_mk W numT (A4 := none) (c4 := 0) (Nat.le_refl 0) (C_nil' _ _ _)
theorem mM_C {W : World} {gp g : Nat} (hP : W.heap[gp]? = some (.cells #[.int .i64 1, .string ⟨#[]⟩, .string ⟨#[]⟩, .int .i64 0, .slice none 0 0] 29 (0, 0))) (hM : W.heap[g]? = some (.cells #[.string ⟨#[109]⟩, .slice (some ⟨gp, 0, none⟩) 1 1, .int .i64 2, .string ⟨#[]⟩, .string ⟨#[]⟩, .int .i64 0, .slice none 0 0] 50 (0, 0))) : Kd.C kMth W (some ⟨g, 0, none⟩) [mM].length [mM] :=
  C_one mM [.string ⟨#[109]⟩, .slice (some ⟨gp, 0, none⟩) 1 1, .int .i64 2, .string ⟨#[]⟩, .string ⟨#[]⟩, .int .i64 0, .slice none 0 0] hM (k50_mk W mM (A1 := some ⟨gp, 0, none⟩) (c1 := 1) (A6 := none) (c6 := 0) (Nat.le_refl 1) (C_one numT [.int .i64 1, .string ⟨#[]⟩, .string ⟨#[]⟩, .int .i64 0, .slice none 0 0] hP (num_K W) rfl rfl) (Nat.le_refl 0) (C_nil' _ _ _)) rfl rfl
theorem mN_C {W : World} {g : Nat} (hM : W.heap[g]? = some (.cells #[.string ⟨#[110]⟩, .slice none 0 0, .int .i64 7, .string ⟨#[]⟩, .string ⟨#[]⟩, .int .i64 0, .slice none 0 0] 50 (0, 0))) : Kd.C kMth W (some ⟨g, 0, none⟩) [mN].length [mN] :=
  C_one mN [.string ⟨#[110]⟩, .slice none 0 0, .int .i64 7, .string ⟨#[]⟩, .string ⟨#[]⟩, .int .i64 0, .slice none 0 0] hM (k50_mk W mN (A1 := none) (c1 := 0) (A6 := none) (c6 := 0) (Nat.le_refl 0) (C_nil' _ _ _) (Nat.le_refl 0) (C_nil' _ _ _)) rfl rfl
theorem wend {W : World} {gp gf gm gi gj gt gw gb : Nat} (hP : W.heap[gp]? = some (.cells #[.int .i64 1, .string ⟨#[]⟩, .string ⟨#[]⟩, .int .i64 0, .slice none 0 0] 29 (0, 0))) (hF : W.heap[gf]? = some (.cells #[.string ⟨#[102]⟩, .int .i64 1, .string ⟨#[]⟩, .string ⟨#[]⟩, .int .i64 0, .slice none 0 0] 83 (0, 0))) (hM : W.heap[gm]? = some (.cells #[.string ⟨#[109]⟩, .slice (some ⟨gp, 0, none⟩) 1 1, .int .i64 2, .string ⟨#[]⟩, .string ⟨#[]⟩, .int .i64 0, .slice none 0 0] 50 (0, 0))) (hI : W.heap[gi]? = some (.cells #[.string ⟨#[109]⟩, .slice (some ⟨gp, 0, none⟩) 1 1, .int .i64 2, .string ⟨#[]⟩, .string ⟨#[]⟩, .int .i64 0, .slice none 0 0] 50 (0, 0))) (hJ : W.heap[gj]? = some (.cells #[.string ⟨#[110]⟩, .slice none 0 0, .int .i64 7, .string ⟨#[]⟩, .string ⟨#[]⟩, .int .i64 0, .slice none 0 0] 50 (0, 0))) (hW : W.heap[gw]? = some (.cells #[.string ⟨#[97]⟩, .slice (some ⟨gt, 0, none⟩) 3 3, .slice none 0 0] 74 (0, 0))) (hT : W.heap[gt]? = some (.cells #[.string ⟨#[84]⟩, .bool true, .slice (some ⟨gf, 0, none⟩) 1 1, .slice (some ⟨gm, 0, none⟩) 1 1, .string ⟨#[73]⟩, .bool false, .slice none 0 0, .slice (some ⟨gi, 0, none⟩) 1 1, .string ⟨#[74]⟩, .bool false, .slice none 0 0, .slice (some ⟨gj, 0, none⟩) 1 1] 35 (0, 0))) (hB : W.heap[gb]? = some (.cells #[.int .i64 4, .string ⟨#[97]⟩, .string ⟨#[73]⟩, .int .i64 0, .slice none 0 0] 29 (0, 0))) :
    ScC ⟨some ⟨gw, 0, none⟩, 1, none, 0, 0, none, 0, 0, some ⟨gb, 0, none⟩, 1, none, 0, 0⟩ wW wB W := by
  have hfl : Kd.C kFld W (some ⟨gf, 0, none⟩) 1 [(⟨⟨#[102]⟩, numT⟩ : Fld)] := C_one (⟨⟨#[102]⟩, numT⟩ : Fld) [.string ⟨#[102]⟩, .int .i64 1, .string ⟨#[]⟩, .string ⟨#[]⟩, .int .i64 0, .slice none 0 0] hF (k83_mk W (⟨⟨#[102]⟩, numT⟩ : Fld) (A5 := none) (c5 := 0) (Nat.le_refl 0) (C_nil' _ _ _)) rfl rfl
  have hds : Kd.C kDcl W (some ⟨gt, 0, none⟩) 3 [dT, dI, dJ] := by
    refine ⟨rfl, by decide, fun _ => ⟨_, rfl, fun j p hj => ?_⟩⟩
    have hc : ∀ q, W.cell? ⟨gt, q, none⟩ = (#[.string ⟨#[84]⟩, .bool true, .slice (some ⟨gf, 0, none⟩) 1 1, .slice (some ⟨gm, 0, none⟩) 1 1, .string ⟨#[73]⟩, .bool false, .slice none 0 0, .slice (some ⟨gi, 0, none⟩) 1 1, .string ⟨#[74]⟩, .bool false, .slice none 0 0, .slice (some ⟨gj, 0, none⟩) 1 1] : Array Value)[q]? := fun q => blk_cell hT q
    rcases j with _ | _ | _ | j
    · obtain rfl : dT = p := by simpa using hj
      refine ⟨[.string ⟨#[84]⟩, .bool true, .slice (some ⟨gf, 0, none⟩) 1 1, .slice (some ⟨gm, 0, none⟩) 1 1], rfl, k35_mk W dT (A2 := some ⟨gf, 0, none⟩) (c2 := 1) (A3 := some ⟨gm, 0, none⟩) (c3 := 1) (Nat.le_refl 1) hfl (Nat.le_refl 1) (mM_C hP hM), fun i u hu => ?_⟩
      rw [Addr.add_lit, hc]
      have hi : i < 4 := (List.getElem?_eq_some_iff.1 hu).1
      have h4 : i = 0 ∨ i = 1 ∨ i = 2 ∨ i = 3 := by omega
      rcases h4 with rfl | rfl | rfl | rfl <;> exact hu
    · obtain rfl : dI = p := by simpa using hj
      refine ⟨[.string ⟨#[73]⟩, .bool false, .slice none 0 0, .slice (some ⟨gi, 0, none⟩) 1 1], rfl, k35_mk W dI (A2 := none) (c2 := 0) (A3 := some ⟨gi, 0, none⟩) (c3 := 1) (Nat.le_refl 0) (C_nil' _ _ _) (Nat.le_refl 1) (mM_C hP hI), fun i u hu => ?_⟩
      rw [Addr.add_lit, hc]
      have hi : i < 4 := (List.getElem?_eq_some_iff.1 hu).1
      have h4 : i = 0 ∨ i = 1 ∨ i = 2 ∨ i = 3 := by omega
      rcases h4 with rfl | rfl | rfl | rfl <;> exact hu
    · obtain rfl : dJ = p := by simpa using hj
      refine ⟨[.string ⟨#[74]⟩, .bool false, .slice none 0 0, .slice (some ⟨gj, 0, none⟩) 1 1], rfl, k35_mk W dJ (A2 := none) (c2 := 0) (A3 := some ⟨gj, 0, none⟩) (c3 := 1) (Nat.le_refl 0) (C_nil' _ _ _) (Nat.le_refl 1) (mN_C hJ), fun i u hu => ?_⟩
      rw [Addr.add_lit, hc]
      have hi : i < 4 := (List.getElem?_eq_some_iff.1 hu).1
      have h4 : i = 0 ∨ i = 1 ∨ i = 2 ∨ i = 3 := by omega
      rcases h4 with rfl | rfl | rfl | rfl <;> exact hu
    · simp at hj
  exact ⟨C_one (⟨⟨#[97]⟩, [dT, dI, dJ], []⟩ : Ifc) [.string ⟨#[97]⟩, .slice (some ⟨gt, 0, none⟩) 3 3, .slice none 0 0] hW (k74_mk W (⟨⟨#[97]⟩, [dT, dI, dJ], []⟩ : Ifc) (A1 := some ⟨gt, 0, none⟩) (c1 := 3) (A2 := none) (c2 := 0) (Nat.le_refl 3) hds (Nat.le_refl 0) (C_nil' _ _ _)) rfl rfl, Nat.le_refl 1,
    C_one (namedT ⟨#[97]⟩ ⟨#[73]⟩) [.int .i64 4, .string ⟨#[97]⟩, .string ⟨#[73]⟩, .int .i64 0, .slice none 0 0] hB (k29_mk W (namedT ⟨#[97]⟩ ⟨#[73]⟩) (A4 := none) (c4 := 0) (Nat.le_refl 0) (C_nil' _ _ _)) rfl rfl, Nat.le_refl 1⟩

theorem info29s : (Try.prog.info? 29).map (·.size) = some 5 := by kernel_rfl
theorem num_c (w : World) : Calls Try.prog 48 #[] w fun e w' => e = .returned (.agg #[.int .i64 1, .string ⟨#[]⟩, .string ⟨#[]⟩, .int .i64 0, .slice none 0 0]) ∧ w.alloc (.cells #[.int .i64 1, .string ⟨#[]⟩, .string ⟨#[]⟩, .int .i64 0, .slice none 0 0] 29) = w' := by
  go_enter Try.func48, Try.ntmps48
  go_wp2_with (fail)
  have hE := blk_new w (.cells #[.int .i64 1, .string ⟨#[]⟩, .string ⟨#[]⟩, .int .i64 0, .slice none 0 0] 29)
  exact bodyPost_ret (results_cell_row rfl _ _ w.heap.size 29 #[.int .i64 1, .string ⟨#[]⟩, .string ⟨#[]⟩, .int .i64 0, .slice none 0 0] (0, 0) _ rfl hE Try.underlying29 rfl (info29s.trans rfl)) rfl ⟨rfl, rfl⟩
theorem named_c (p n : ByteArray) (w : World) : Calls Try.prog 47 #[.string p, .string n] w fun e w' => e = .returned (.agg #[.int .i64 4, .string p, .string n, .int .i64 0, .slice none 0 0]) ∧ w.alloc (.cells #[.int .i64 4, .string p, .string n, .int .i64 0, .slice none 0 0] 29) = w' := by
  go_enter Try.func47, Try.ntmps47
  go_wp2_with (fail)
  have hE := blk_new w (.cells #[.int .i64 4, .string p, .string n, .int .i64 0, .slice none 0 0] 29)
  exact bodyPost_ret (results_cell_row rfl _ _ w.heap.size 29 #[.int .i64 4, .string p, .string n, .int .i64 0, .slice none 0 0] (0, 0) _ rfl hE Try.underlying29 rfl (info29s.trans rfl)) rfl ⟨rfl, rfl⟩

theorem blk_new1 {W : World} {n : Nat} (h : W.heap.size = n) (a : Obj) : (W.alloc a).heap[n]? = some a := blk_newN W a n h
theorem alloc_size' {W : World} {n : Nat} (h : W.heap.size = n) (a : Obj) : (W.alloc a).heap.size = n + 1 := by subst h; simp
theorem blk_new2 {W : World} {n : Nat} (h : W.heap.size = n) (a b : Obj) : ((W.alloc a).alloc b).heap[n + 1]? = some b := blk_newN _ b _ (alloc_size' h a)
theorem blk_new3 {W : World} {n : Nat} (h : W.heap.size = n) (a b c : Obj) : (((W.alloc a).alloc b).alloc c).heap[n + 1 + 1]? = some c := blk_newN _ c _ (alloc_size' (alloc_size' h a) b)
theorem blk_new4 {W : World} {n : Nat} (h : W.heap.size = n) (a b c d : Obj) : ((((W.alloc a).alloc b).alloc c).alloc d).heap[n + 1 + 1 + 1]? = some d := blk_newN _ d _ (alloc_size' (alloc_size' (alloc_size' h a) b) c)
theorem size5 (W : World) (b : Nat) (v0 v1 v2 v3 v4 : Value) : (((((W.setCell ⟨b, 0, none⟩ v0).setCell ⟨b, 1, none⟩ v1).setCell ⟨b, 2, none⟩ v2).setCell ⟨b, 3, none⟩ v3).setCell ⟨b, 4, none⟩ v4).heap.size = W.heap.size := by simp
theorem bel5 {B b : Nat} {w W : World} (h : Below B w W) (hb : B ≤ b) (v0 v1 v2 v3 v4 : Value) : Below B w (((((W.setCell ⟨b, 0, none⟩ v0).setCell ⟨b, 1, none⟩ v1).setCell ⟨b, 2, none⟩ v2).setCell ⟨b, 3, none⟩ v3).setCell ⟨b, 4, none⟩ v4) := ((((h.setCell hb _).setCell hb _).setCell hb _).setCell hb _).setCell hb _
def ScEnd (w : World) (wx : World) : Prop := ∃ gw gb : Nat, Hid (wx.heap[w.heap.size]? = some (.cells #[.slice (some ⟨gw, 0, none⟩) 1 1, .slice none 0 0, .slice none 0 0, .slice (some ⟨gb, 0, none⟩) 1 1, .slice none 0 0] 27 (0, 0))) ∧ Hid (ScC ⟨some ⟨gw, 0, none⟩, 1, none, 0, 0, none, 0, 0, some ⟨gb, 0, none⟩, 1, none, 0, 0⟩ wW wB wx) ∧ Hid (Below w.heap.size w wx)
theorem wfin {w W5 : World} {gp gf gm gi gj : Nat} {x0 x1 x2 x3 x4 : Value} (HR : W5.heap[w.heap.size]? = some (.cells #[x0, x1, x2, x3, x4] 27 (0, 0))) (HPP : W5.heap[gp]? = some (.cells #[.int .i64 1, .string ⟨#[]⟩, .string ⟨#[]⟩, .int .i64 0, .slice none 0 0] 29 (0, 0))) (np : gp ≠ w.heap.size) (HGF : W5.heap[gf]? = some (.cells #[.string ⟨#[102]⟩, .int .i64 1, .string ⟨#[]⟩, .string ⟨#[]⟩, .int .i64 0, .slice none 0 0] 83 (0, 0))) (nf : gf ≠ w.heap.size) (HGM : W5.heap[gm]? = some (.cells #[.string ⟨#[109]⟩, .slice (some ⟨gp, 0, none⟩) 1 1, .int .i64 2, .string ⟨#[]⟩, .string ⟨#[]⟩, .int .i64 0, .slice none 0 0] 50 (0, 0))) (nm : gm ≠ w.heap.size) (HI : W5.heap[gi]? = some (.cells #[.string ⟨#[109]⟩, .slice (some ⟨gp, 0, none⟩) 1 1, .int .i64 2, .string ⟨#[]⟩, .string ⟨#[]⟩, .int .i64 0, .slice none 0 0] 50 (0, 0))) (ni : gi ≠ w.heap.size) (HJ : W5.heap[gj]? = some (.cells #[.string ⟨#[110]⟩, .slice none 0 0, .int .i64 7, .string ⟨#[]⟩, .string ⟨#[]⟩, .int .i64 0, .slice none 0 0] 50 (0, 0))) (nj : gj ≠ w.heap.size) (HB : Below w.heap.size w W5)
    {gw gt gb : Nat} {X : World} (hX : Below (((((W5.setCell ⟨w.heap.size, 0, none⟩ (.slice (some ⟨gw, 0, none⟩) 1 1)).setCell ⟨w.heap.size, 1, none⟩ (.slice none 0 0)).setCell ⟨w.heap.size, 2, none⟩ (.slice none 0 0)).setCell ⟨w.heap.size, 3, none⟩ (.slice (some ⟨gb, 0, none⟩) 1 1)).setCell ⟨w.heap.size, 4, none⟩ (.slice none 0 0)).heap.size (((((W5.setCell ⟨w.heap.size, 0, none⟩ (.slice (some ⟨gw, 0, none⟩) 1 1)).setCell ⟨w.heap.size, 1, none⟩ (.slice none 0 0)).setCell ⟨w.heap.size, 2, none⟩ (.slice none 0 0)).setCell ⟨w.heap.size, 3, none⟩ (.slice (some ⟨gb, 0, none⟩) 1 1)).setCell ⟨w.heap.size, 4, none⟩ (.slice none 0 0)) X)
    (hW : X.heap[gw]? = some (.cells #[.string ⟨#[97]⟩, .slice (some ⟨gt, 0, none⟩) 3 3, .slice none 0 0] 74 (0, 0))) (hT : X.heap[gt]? = some (.cells #[.string ⟨#[84]⟩, .bool true, .slice (some ⟨gf, 0, none⟩) 1 1, .slice (some ⟨gm, 0, none⟩) 1 1, .string ⟨#[73]⟩, .bool false, .slice none 0 0, .slice (some ⟨gi, 0, none⟩) 1 1, .string ⟨#[74]⟩, .bool false, .slice none 0 0, .slice (some ⟨gj, 0, none⟩) 1 1] 35 (0, 0))) (hB : X.heap[gb]? = some (.cells #[.int .i64 4, .string ⟨#[97]⟩, .string ⟨#[73]⟩, .int .i64 0, .slice none 0 0] 29 (0, 0))) : ScEnd w X.drew :=
  ⟨gw, gb, Lib.hid (blk_drew' (blk_later hX (row5 _ _ _ _ _ HR))), Lib.hid (wend (blk_drew' (blk_later hX (keep5 _ _ _ _ _ HPP np))) (blk_drew' (blk_later hX (keep5 _ _ _ _ _ HGF nf))) (blk_drew' (blk_later hX (keep5 _ _ _ _ _ HGM nm))) (blk_drew' (blk_later hX (keep5 _ _ _ _ _ HI ni))) (blk_drew' (blk_later hX (keep5 _ _ _ _ _ HJ nj))) (blk_drew' hW) (blk_drew' hT) (blk_drew' hB)), Lib.hid (bel_drew (bel_trans (bel5 HB (Nat.le_refl _) _ _ _ _ _) hX))⟩
theorem bel4 (W : World) (a b c d : Obj) : Below W.heap.size W ((((W.alloc a).alloc b).alloc c).alloc d) := bel_alloc (bel_alloc (bel_alloc (bel_alloc (Below.refl _ W) a) b) c) d
theorem wfin4 {w W5 : World} {gp gf gm gi gj : Nat} {x0 x1 x2 x3 x4 : Value} (HR : W5.heap[w.heap.size]? = some (.cells #[x0, x1, x2, x3, x4] 27 (0, 0))) (HPP : W5.heap[gp]? = some (.cells #[.int .i64 1, .string ⟨#[]⟩, .string ⟨#[]⟩, .int .i64 0, .slice none 0 0] 29 (0, 0))) (np : gp ≠ w.heap.size) (HGF : W5.heap[gf]? = some (.cells #[.string ⟨#[102]⟩, .int .i64 1, .string ⟨#[]⟩, .string ⟨#[]⟩, .int .i64 0, .slice none 0 0] 83 (0, 0))) (nf : gf ≠ w.heap.size) (HGM : W5.heap[gm]? = some (.cells #[.string ⟨#[109]⟩, .slice (some ⟨gp, 0, none⟩) 1 1, .int .i64 2, .string ⟨#[]⟩, .string ⟨#[]⟩, .int .i64 0, .slice none 0 0] 50 (0, 0))) (nm : gm ≠ w.heap.size) (HI : W5.heap[gi]? = some (.cells #[.string ⟨#[109]⟩, .slice (some ⟨gp, 0, none⟩) 1 1, .int .i64 2, .string ⟨#[]⟩, .string ⟨#[]⟩, .int .i64 0, .slice none 0 0] 50 (0, 0))) (ni : gi ≠ w.heap.size) (HJ : W5.heap[gj]? = some (.cells #[.string ⟨#[110]⟩, .slice none 0 0, .int .i64 7, .string ⟨#[]⟩, .string ⟨#[]⟩, .int .i64 0, .slice none 0 0] 50 (0, 0))) (nj : gj ≠ w.heap.size) (HB : Below w.heap.size w W5)
    {gw gt gb : Nat} {o1 o2 o3 o4 : Obj}
    (hW : (((((((((W5.setCell ⟨w.heap.size, 0, none⟩ (.slice (some ⟨gw, 0, none⟩) 1 1)).setCell ⟨w.heap.size, 1, none⟩ (.slice none 0 0)).setCell ⟨w.heap.size, 2, none⟩ (.slice none 0 0)).setCell ⟨w.heap.size, 3, none⟩ (.slice (some ⟨gb, 0, none⟩) 1 1)).setCell ⟨w.heap.size, 4, none⟩ (.slice none 0 0)).alloc o1).alloc o2).alloc o3).alloc o4).heap[gw]? = some (.cells #[.string ⟨#[97]⟩, .slice (some ⟨gt, 0, none⟩) 3 3, .slice none 0 0] 74 (0, 0))) (hT : (((((((((W5.setCell ⟨w.heap.size, 0, none⟩ (.slice (some ⟨gw, 0, none⟩) 1 1)).setCell ⟨w.heap.size, 1, none⟩ (.slice none 0 0)).setCell ⟨w.heap.size, 2, none⟩ (.slice none 0 0)).setCell ⟨w.heap.size, 3, none⟩ (.slice (some ⟨gb, 0, none⟩) 1 1)).setCell ⟨w.heap.size, 4, none⟩ (.slice none 0 0)).alloc o1).alloc o2).alloc o3).alloc o4).heap[gt]? = some (.cells #[.string ⟨#[84]⟩, .bool true, .slice (some ⟨gf, 0, none⟩) 1 1, .slice (some ⟨gm, 0, none⟩) 1 1, .string ⟨#[73]⟩, .bool false, .slice none 0 0, .slice (some ⟨gi, 0, none⟩) 1 1, .string ⟨#[74]⟩, .bool false, .slice none 0 0, .slice (some ⟨gj, 0, none⟩) 1 1] 35 (0, 0))) (hB : (((((((((W5.setCell ⟨w.heap.size, 0, none⟩ (.slice (some ⟨gw, 0, none⟩) 1 1)).setCell ⟨w.heap.size, 1, none⟩ (.slice none 0 0)).setCell ⟨w.heap.size, 2, none⟩ (.slice none 0 0)).setCell ⟨w.heap.size, 3, none⟩ (.slice (some ⟨gb, 0, none⟩) 1 1)).setCell ⟨w.heap.size, 4, none⟩ (.slice none 0 0)).alloc o1).alloc o2).alloc o3).alloc o4).heap[gb]? = some (.cells #[.int .i64 4, .string ⟨#[97]⟩, .string ⟨#[73]⟩, .int .i64 0, .slice none 0 0] 29 (0, 0))) : ScEnd w (((((((((W5.setCell ⟨w.heap.size, 0, none⟩ (.slice (some ⟨gw, 0, none⟩) 1 1)).setCell ⟨w.heap.size, 1, none⟩ (.slice none 0 0)).setCell ⟨w.heap.size, 2, none⟩ (.slice none 0 0)).setCell ⟨w.heap.size, 3, none⟩ (.slice (some ⟨gb, 0, none⟩) 1 1)).setCell ⟨w.heap.size, 4, none⟩ (.slice none 0 0)).alloc o1).alloc o2).alloc o3).alloc o4).drew :=
  wfin HR HPP np HGF nf HGM nm HI ni HJ nj HB (bel4 _ _ _ _ _) hW hT hB

set_option maxRecDepth 100000 in
set_option maxHeartbeats 4000000 in
theorem world_any (w : World) : Calls Try.prog 46 #[] w fun e w' => ∃ a, e = .returned (scV a wW wB) ∧ ScC a wW wB w' ∧ Below w.heap.size w w' := by
  have HB := Lib.hid (bel_alloc (Below.refl w.heap.size w) (.cells #[.slice none 0 0, .slice none 0 0, .slice none 0 0, .slice none 0 0, .slice none 0 0] 27))
  have HR := Lib.hid (blk_new w (.cells #[.slice none 0 0, .slice none 0 0, .slice none 0 0, .slice none 0 0, .slice none 0 0] 27))
  go_enter Try.func46, Try.ntmps46
  go_wp2_with (fail)
  refine (num_c _).mono ?_
  rintro e w1 ⟨rfl, hw1⟩
  have hb := bel_alloc (Below.refl (w.alloc (.cells #[.slice none 0 0, .slice none 0 0, .slice none 0 0, .slice none 0 0, .slice none 0 0] 27)).heap.size (w.alloc (.cells #[.slice none 0 0, .slice none 0 0, .slice none 0 0, .slice none 0 0, .slice none 0 0] 27))) (.cells #[.int .i64 1, .string ⟨#[]⟩, .string ⟨#[]⟩, .int .i64 0, .slice none 0 0] 29)
  rw [hw1] at hb
  replace HB := Lib.hid (bel_trans HB.out hb)
  replace HR := Lib.hid (blk_later hb HR.out)
  clear hb hw1
  have hB2 := bel_alloc (bel_alloc (bel_alloc (Below.refl w1.heap.size w1) (.cells #[.int .i64 1, .string ⟨#[]⟩, .string ⟨#[]⟩, .int .i64 0, .slice none 0 0] 29)) (.cells #[.string ⟨#[109]⟩, .slice (some ⟨w1.heap.size, 0, none⟩) 1 1, .int .i64 2, .string ⟨#[]⟩, .string ⟨#[]⟩, .int .i64 0, .slice none 0 0] 50)) (.cells #[.string ⟨#[110]⟩, .slice none 0 0, .int .i64 7, .string ⟨#[]⟩, .string ⟨#[]⟩, .int .i64 0, .slice none 0 0] 50)
  replace HB := Lib.hid (bel_trans HB.out hB2)
  replace HR := Lib.hid (blk_later hB2 HR.out)
  have HP := Lib.hid (blk_alloc (blk_alloc (blk_new w1 (.cells #[.int .i64 1, .string ⟨#[]⟩, .string ⟨#[]⟩, .int .i64 0, .slice none 0 0] 29)) (.cells #[.string ⟨#[109]⟩, .slice (some ⟨w1.heap.size, 0, none⟩) 1 1, .int .i64 2, .string ⟨#[]⟩, .string ⟨#[]⟩, .int .i64 0, .slice none 0 0] 50)) (.cells #[.string ⟨#[110]⟩, .slice none 0 0, .int .i64 7, .string ⟨#[]⟩, .string ⟨#[]⟩, .int .i64 0, .slice none 0 0] 50))
  have HM := Lib.hid (blk_alloc (show ((w1.alloc (.cells #[.int .i64 1, .string ⟨#[]⟩, .string ⟨#[]⟩, .int .i64 0, .slice none 0 0] 29)).alloc (.cells #[.string ⟨#[109]⟩, .slice (some ⟨w1.heap.size, 0, none⟩) 1 1, .int .i64 2, .string ⟨#[]⟩, .string ⟨#[]⟩, .int .i64 0, .slice none 0 0] 50)).heap[w1.heap.size + 1]? = some (.cells #[.string ⟨#[109]⟩, .slice (some ⟨w1.heap.size, 0, none⟩) 1 1, .int .i64 2, .string ⟨#[]⟩, .string ⟨#[]⟩, .int .i64 0, .slice none 0 0] 50 (0, 0)) from blk_newN _ _ _ (by simp)) (.cells #[.string ⟨#[110]⟩, .slice none 0 0, .int .i64 7, .string ⟨#[]⟩, .string ⟨#[]⟩, .int .i64 0, .slice none 0 0] 50))
  have HN := Lib.hid (show (((w1.alloc (.cells #[.int .i64 1, .string ⟨#[]⟩, .string ⟨#[]⟩, .int .i64 0, .slice none 0 0] 29)).alloc (.cells #[.string ⟨#[109]⟩, .slice (some ⟨w1.heap.size, 0, none⟩) 1 1, .int .i64 2, .string ⟨#[]⟩, .string ⟨#[]⟩, .int .i64 0, .slice none 0 0] 50)).alloc (.cells #[.string ⟨#[110]⟩, .slice none 0 0, .int .i64 7, .string ⟨#[]⟩, .string ⟨#[]⟩, .int .i64 0, .slice none 0 0] 50)).heap[w1.heap.size + 1 + 1]? = some (.cells #[.string ⟨#[110]⟩, .slice none 0 0, .int .i64 7, .string ⟨#[]⟩, .string ⟨#[]⟩, .int .i64 0, .slice none 0 0] 50 (0, 0)) from blk_newN _ _ _ (by simp))
  clear hB2
  go_wp2_with (fail)
  generalize hW2 : ((w1.alloc (.cells #[.int .i64 1, .string ⟨#[]⟩, .string ⟨#[]⟩, .int .i64 0, .slice none 0 0] 29)).alloc (.cells #[.string ⟨#[109]⟩, .slice (some ⟨w1.heap.size, 0, none⟩) 1 1, .int .i64 2, .string ⟨#[]⟩, .string ⟨#[]⟩, .int .i64 0, .slice none 0 0] 50)).alloc (.cells #[.string ⟨#[110]⟩, .slice none 0 0, .int .i64 7, .string ⟨#[]⟩, .string ⟨#[]⟩, .int .i64 0, .slice none 0 0] 50) = W2 at *
  generalize w1.heap.size = gp at *
  have HP2 := HP
  have HC0 := Lib.hid (C_one (d := kTy) numT [.int .i64 1, .string ⟨#[]⟩, .string ⟨#[]⟩, .int .i64 0, .slice none 0 0] HP.out (k29_mk _ numT (A4 := none) (c4 := 0) (Nat.le_refl 0) ⟨rfl, by decide, fun h => by simp [numT] at h⟩) rfl rfl)
  clear hW2 HP
  have m0 := (blk_cell HM.out 0).trans rfl
  have m1 := (blk_cell HM.out 1).trans rfl
  have m2 := (blk_cell HM.out 2).trans rfl
  have m3 := (blk_cell HM.out 3).trans rfl
  have m4 := (blk_cell HM.out 4).trans rfl
  have m5 := (blk_cell HM.out 5).trans rfl
  have m6 := (blk_cell HM.out 6).trans rfl
  have hgm := blk_lt HM.out
  have hgm' := Nat.lt_succ_of_lt hgm
  have hgm'' := Nat.lt_succ_of_lt hgm'
  have hgm3 := Nat.lt_succ_of_lt hgm''
  have hgm4 := Nat.lt_succ_of_lt hgm3
  go_cut [3] (fun s3 wx => ∃ g gf gm : Nat, s3 = .pointer (some ⟨g, 0, none⟩) ∧ Hid (Below W2.heap.size W2 wx) ∧ Hid (wx.heap[g]? = some (.cells #[.string ⟨#[84]⟩, .bool true, .slice (some ⟨gf, 0, none⟩) 1 1, .slice (some ⟨gm, 0, none⟩) 1 1] 35 (0, 0))) ∧ Hid (wx.heap[gf]? = some (.cells #[.string ⟨#[102]⟩, .int .i64 1, .string ⟨#[]⟩, .string ⟨#[]⟩, .int .i64 0, .slice none 0 0] 83 (0, 0))) ∧ Hid (wx.heap[gm]? = some (.cells #[.string ⟨#[109]⟩, .slice (some ⟨gp, 0, none⟩) 1 1, .int .i64 2, .string ⟨#[]⟩, .string ⟨#[]⟩, .int .i64 0, .slice none 0 0] 50 (0, 0))))
  case first =>
    go_region_law (first | (go_simp; go_at_call 48; refine (num_c _).mono ?_; rintro e w3 ⟨rfl, rfl⟩))
    all_goals
      go_wp2_with (fail)
      go_meet
      exact ⟨_, _, _, rfl, Lib.hid (bel_drew (by repeat (first | exact Below.refl _ _ | refine bel_alloc ?_ _))), Lib.hid (blk_drew' (by first | exact blk_newN _ _ _ (by simp) | exact blk_alloc (blk_newN _ _ _ (by simp)) _ | exact blk_alloc (blk_alloc (blk_newN _ _ _ (by simp)) _) _ | exact blk_alloc (blk_alloc (blk_alloc (blk_newN _ _ _ (by simp)) _) _) _)), Lib.hid (blk_drew' (by first | exact blk_newN _ _ _ (by simp) | exact blk_alloc (blk_newN _ _ _ (by simp)) _ | exact blk_alloc (blk_alloc (blk_newN _ _ _ (by simp)) _) _ | exact blk_alloc (blk_alloc (blk_alloc (blk_newN _ _ _ (by simp)) _) _) _)), Lib.hid (blk_drew' (by first | exact blk_newN _ _ _ (by simp) | exact blk_alloc (blk_newN _ _ _ (by simp)) _ | exact blk_alloc (blk_alloc (blk_newN _ _ _ (by simp)) _) _ | exact blk_alloc (blk_alloc (blk_alloc (blk_newN _ _ _ (by simp)) _) _) _))⟩
  case rest =>
    obtain ⟨g, gf, gm, rfl, HB3, HG, HGF, HGM⟩ := hcut
    have hm := blk_later HB3.out HM.out
    have hn := blk_later HB3.out HN.out
    have hp := blk_later HB3.out HP2.out
    clear m0 m1 m2 m3 m4 m5 m6 hgm hgm' hgm'' hgm3 hgm4
    have m0 := (blk_cell hm 0).trans rfl
    have m1 := (blk_cell hm 1).trans rfl
    have m2 := (blk_cell hm 2).trans rfl
    have m3 := (blk_cell hm 3).trans rfl
    have m4 := (blk_cell hm 4).trans rfl
    have m5 := (blk_cell hm 5).trans rfl
    have m6 := (blk_cell hm 6).trans rfl
    have n0 := (blk_cell hn 0).trans rfl
    have n1 := (blk_cell hn 1).trans rfl
    have n2 := (blk_cell hn 2).trans rfl
    have n3 := (blk_cell hn 3).trans rfl
    have n4 := (blk_cell hn 4).trans rfl
    have n5 := (blk_cell hn 5).trans rfl
    have n6 := (blk_cell hn 6).trans rfl
    have hgn := blk_lt hn
    have hgn' := Nat.lt_succ_of_lt hgn
    have hgn'' := Nat.lt_succ_of_lt hgn'
    have HPP := Lib.hid hp
    clear hm hn hp
    go_wp2_with (fail)
    have hB5 := bel_alloc (bel_alloc (bel_alloc (bel_alloc (Below.refl wc.heap.size wc) (.cells #[.string ⟨#[109]⟩, .slice (some ⟨gp, 0, none⟩) 1 1, .int .i64 2, .string ⟨#[]⟩, .string ⟨#[]⟩, .int .i64 0, .slice none 0 0] 50)) (.cells #[.string ⟨#[73]⟩, .bool false, .slice none 0 0, .slice (some ⟨wc.heap.size, 0, none⟩) 1 1] 35)) (.cells #[.string ⟨#[110]⟩, .slice none 0 0, .int .i64 7, .string ⟨#[]⟩, .string ⟨#[]⟩, .int .i64 0, .slice none 0 0] 50)) (.cells #[.string ⟨#[74]⟩, .bool false, .slice none 0 0, .slice (some ⟨wc.heap.size + 1 + 1, 0, none⟩) 1 1] 35)
    have i0 := blk_alloc (blk_alloc (blk_alloc (blk_newN wc (.cells #[.string ⟨#[109]⟩, .slice (some ⟨gp, 0, none⟩) 1 1, .int .i64 2, .string ⟨#[]⟩, .string ⟨#[]⟩, .int .i64 0, .slice none 0 0] 50) _ rfl) (.cells #[.string ⟨#[73]⟩, .bool false, .slice none 0 0, .slice (some ⟨wc.heap.size, 0, none⟩) 1 1] 35)) (.cells #[.string ⟨#[110]⟩, .slice none 0 0, .int .i64 7, .string ⟨#[]⟩, .string ⟨#[]⟩, .int .i64 0, .slice none 0 0] 50)) (.cells #[.string ⟨#[74]⟩, .bool false, .slice none 0 0, .slice (some ⟨wc.heap.size + 1 + 1, 0, none⟩) 1 1] 35)
    have i1 := blk_alloc (blk_alloc (blk_newN (wc.alloc (.cells #[.string ⟨#[109]⟩, .slice (some ⟨gp, 0, none⟩) 1 1, .int .i64 2, .string ⟨#[]⟩, .string ⟨#[]⟩, .int .i64 0, .slice none 0 0] 50)) (.cells #[.string ⟨#[73]⟩, .bool false, .slice none 0 0, .slice (some ⟨wc.heap.size, 0, none⟩) 1 1] 35) (wc.heap.size + 1) (by simp)) (.cells #[.string ⟨#[110]⟩, .slice none 0 0, .int .i64 7, .string ⟨#[]⟩, .string ⟨#[]⟩, .int .i64 0, .slice none 0 0] 50)) (.cells #[.string ⟨#[74]⟩, .bool false, .slice none 0 0, .slice (some ⟨wc.heap.size + 1 + 1, 0, none⟩) 1 1] 35)
    have i2 := blk_alloc (blk_newN ((wc.alloc (.cells #[.string ⟨#[109]⟩, .slice (some ⟨gp, 0, none⟩) 1 1, .int .i64 2, .string ⟨#[]⟩, .string ⟨#[]⟩, .int .i64 0, .slice none 0 0] 50)).alloc (.cells #[.string ⟨#[73]⟩, .bool false, .slice none 0 0, .slice (some ⟨wc.heap.size, 0, none⟩) 1 1] 35)) (.cells #[.string ⟨#[110]⟩, .slice none 0 0, .int .i64 7, .string ⟨#[]⟩, .string ⟨#[]⟩, .int .i64 0, .slice none 0 0] 50) (wc.heap.size + 1 + 1) (by simp)) (.cells #[.string ⟨#[74]⟩, .bool false, .slice none 0 0, .slice (some ⟨wc.heap.size + 1 + 1, 0, none⟩) 1 1] 35)
    have i3 := blk_newN (((wc.alloc (.cells #[.string ⟨#[109]⟩, .slice (some ⟨gp, 0, none⟩) 1 1, .int .i64 2, .string ⟨#[]⟩, .string ⟨#[]⟩, .int .i64 0, .slice none 0 0] 50)).alloc (.cells #[.string ⟨#[73]⟩, .bool false, .slice none 0 0, .slice (some ⟨wc.heap.size, 0, none⟩) 1 1] 35)).alloc (.cells #[.string ⟨#[110]⟩, .slice none 0 0, .int .i64 7, .string ⟨#[]⟩, .string ⟨#[]⟩, .int .i64 0, .slice none 0 0] 50)) (.cells #[.string ⟨#[74]⟩, .bool false, .slice none 0 0, .slice (some ⟨wc.heap.size + 1 + 1, 0, none⟩) 1 1] 35) (wc.heap.size + 1 + 1 + 1) (by simp)
    generalize hW5 : (((wc.alloc (.cells #[.string ⟨#[109]⟩, .slice (some ⟨gp, 0, none⟩) 1 1, .int .i64 2, .string ⟨#[]⟩, .string ⟨#[]⟩, .int .i64 0, .slice none 0 0] 50)).alloc (.cells #[.string ⟨#[73]⟩, .bool false, .slice none 0 0, .slice (some ⟨wc.heap.size, 0, none⟩) 1 1] 35)).alloc (.cells #[.string ⟨#[110]⟩, .slice none 0 0, .int .i64 7, .string ⟨#[]⟩, .string ⟨#[]⟩, .int .i64 0, .slice none 0 0] 50)).alloc (.cells #[.string ⟨#[74]⟩, .bool false, .slice none 0 0, .slice (some ⟨wc.heap.size + 1 + 1, 0, none⟩) 1 1] 35) = W5 at *
    clear hW5
    replace HB := Lib.hid (bel_trans (bel_trans HB.out HB3.out) hB5)
    replace HR := Lib.hid (blk_later hB5 (blk_later HB3.out HR.out))
    replace HPP := Lib.hid (blk_later hB5 HPP.out)
    replace HG := blk_later hB5 HG.out
    replace HGF := Lib.hid (blk_later hB5 HGF.out)
    replace HGM := Lib.hid (blk_later hB5 HGM.out)
    generalize wc.heap.size = gi at *
    generalize ej : gi + 1 = gI at *
    generalize ek : gI + 1 = gj at *
    generalize el : gj + 1 = gJ at *
    clear ej ek el HB3 hB5 m0 m1 m2 m3 m4 m5 m6 n0 n1 n2 n3 n4 n5 n6 hgn hgn' hgn''
    have HI := Lib.hid i0
    have HJ := Lib.hid i2
    have a0 := (blk_cell HG 0).trans rfl
    have a1 := (blk_cell HG 1).trans rfl
    have a2 := (blk_cell HG 2).trans rfl
    have a3 := (blk_cell HG 3).trans rfl
    have b0 := (blk_cell i1 0).trans rfl
    have b1 := (blk_cell i1 1).trans rfl
    have b2 := (blk_cell i1 2).trans rfl
    have b3 := (blk_cell i1 3).trans rfl
    have c0 := (blk_cell i3 0).trans rfl
    have c1 := (blk_cell i3 1).trans rfl
    have c2 := (blk_cell i3 2).trans rfl
    have c3 := (blk_cell i3 3).trans rfl
    have ag := blk_lt HG
    have ag1 := Nat.lt_succ_of_lt ag
    have ag2 := Nat.lt_succ_of_lt ag1
    have ag3 := Nat.lt_succ_of_lt ag2
    have bg := blk_lt i1
    have bg1 := Nat.lt_succ_of_lt bg
    have bg2 := Nat.lt_succ_of_lt bg1
    have bg3 := Nat.lt_succ_of_lt bg2
    have cg := blk_lt i3
    have cg1 := Nat.lt_succ_of_lt cg
    have cg2 := Nat.lt_succ_of_lt cg1
    have cg3 := Nat.lt_succ_of_lt cg2
    have r0 := (blk_cell HR.out 0).trans rfl
    have r1 := (blk_cell HR.out 1).trans rfl
    have r2 := (blk_cell HR.out 2).trans rfl
    have r3 := (blk_cell HR.out 3).trans rfl
    have r4 := (blk_cell HR.out 4).trans rfl
    have fr0 := blk_free HR.out 0
    have fr1 := blk_free HR.out 1
    have fr2 := blk_free HR.out 2
    have fr3 := blk_free HR.out 3
    have fr4 := blk_free HR.out 4
    have dg := blk_lt HR.out
    have dg1 := Nat.lt_succ_of_lt dg
    have dg2 := Nat.lt_succ_of_lt dg1
    have dg3 := Nat.lt_succ_of_lt dg2
    have dg4 := Nat.lt_succ_of_lt dg3
    have ng := blk_ne HR.out HG (by decide)
    have nI := blk_ne HR.out i1 (by decide)
    have nJ := blk_ne HR.out i3 (by decide)
    have nf := Lib.hid (blk_ne HGF.out HR.out (by decide))
    have nm := Lib.hid (blk_ne HGM.out HR.out (by decide))
    have np := Lib.hid (blk_ne HPP.out HR.out (by decide))
    have ni := Lib.hid (blk_ne HI.out HR.out (by decide))
    have nj := Lib.hid (blk_ne HJ.out HR.out (by decide))
    clear HG i0 i1 i2 i3
    have HSc : ∀ (W : World) (i : Nat) (v : Value), (W.cell? ⟨g, 0, none⟩ = some (.string ⟨#[84]⟩) ∧ W.cell? ⟨g, 1, none⟩ = some (.bool true) ∧ W.cell? ⟨g, 2, none⟩ = some (.slice (some ⟨gf, 0, none⟩) 1 1) ∧ W.cell? ⟨g, 3, none⟩ = some (.slice (some ⟨gm, 0, none⟩) 1 1) ∧ W.cell? ⟨gI, 0, none⟩ = some (.string ⟨#[73]⟩) ∧ W.cell? ⟨gI, 1, none⟩ = some (.bool false) ∧ W.cell? ⟨gI, 2, none⟩ = some (.slice none 0 0) ∧ W.cell? ⟨gI, 3, none⟩ = some (.slice (some ⟨gi, 0, none⟩) 1 1) ∧ W.cell? ⟨gJ, 0, none⟩ = some (.string ⟨#[74]⟩) ∧ W.cell? ⟨gJ, 1, none⟩ = some (.bool false) ∧ W.cell? ⟨gJ, 2, none⟩ = some (.slice none 0 0) ∧ W.cell? ⟨gJ, 3, none⟩ = some (.slice (some ⟨gj, 0, none⟩) 1 1)) → ((W.setCell ⟨w.heap.size, i, none⟩ v).cell? ⟨g, 0, none⟩ = some (.string ⟨#[84]⟩) ∧ (W.setCell ⟨w.heap.size, i, none⟩ v).cell? ⟨g, 1, none⟩ = some (.bool true) ∧ (W.setCell ⟨w.heap.size, i, none⟩ v).cell? ⟨g, 2, none⟩ = some (.slice (some ⟨gf, 0, none⟩) 1 1) ∧ (W.setCell ⟨w.heap.size, i, none⟩ v).cell? ⟨g, 3, none⟩ = some (.slice (some ⟨gm, 0, none⟩) 1 1) ∧ (W.setCell ⟨w.heap.size, i, none⟩ v).cell? ⟨gI, 0, none⟩ = some (.string ⟨#[73]⟩) ∧ (W.setCell ⟨w.heap.size, i, none⟩ v).cell? ⟨gI, 1, none⟩ = some (.bool false) ∧ (W.setCell ⟨w.heap.size, i, none⟩ v).cell? ⟨gI, 2, none⟩ = some (.slice none 0 0) ∧ (W.setCell ⟨w.heap.size, i, none⟩ v).cell? ⟨gI, 3, none⟩ = some (.slice (some ⟨gi, 0, none⟩) 1 1) ∧ (W.setCell ⟨w.heap.size, i, none⟩ v).cell? ⟨gJ, 0, none⟩ = some (.string ⟨#[74]⟩) ∧ (W.setCell ⟨w.heap.size, i, none⟩ v).cell? ⟨gJ, 1, none⟩ = some (.bool false) ∧ (W.setCell ⟨w.heap.size, i, none⟩ v).cell? ⟨gJ, 2, none⟩ = some (.slice none 0 0) ∧ (W.setCell ⟨w.heap.size, i, none⟩ v).cell? ⟨gJ, 3, none⟩ = some (.slice (some ⟨gj, 0, none⟩) 1 1)) := fun W i v h => ⟨(World.cell?_setCell_far W _ _ v ng).trans (h.1), (World.cell?_setCell_far W _ _ v ng).trans (h.2.1), (World.cell?_setCell_far W _ _ v ng).trans (h.2.2.1), (World.cell?_setCell_far W _ _ v ng).trans (h.2.2.2.1), (World.cell?_setCell_far W _ _ v nI).trans (h.2.2.2.2.1), (World.cell?_setCell_far W _ _ v nI).trans (h.2.2.2.2.2.1), (World.cell?_setCell_far W _ _ v nI).trans (h.2.2.2.2.2.2.1), (World.cell?_setCell_far W _ _ v nI).trans (h.2.2.2.2.2.2.2.1), (World.cell?_setCell_far W _ _ v nJ).trans (h.2.2.2.2.2.2.2.2.1), (World.cell?_setCell_far W _ _ v nJ).trans (h.2.2.2.2.2.2.2.2.2.1), (World.cell?_setCell_far W _ _ v nJ).trans (h.2.2.2.2.2.2.2.2.2.2.1), (World.cell?_setCell_far W _ _ v nJ).trans (h.2.2.2.2.2.2.2.2.2.2.2)⟩
    have HS : ∀ (W : World) (o : Obj), (W.cell? ⟨g, 0, none⟩ = some (.string ⟨#[84]⟩) ∧ W.cell? ⟨g, 1, none⟩ = some (.bool true) ∧ W.cell? ⟨g, 2, none⟩ = some (.slice (some ⟨gf, 0, none⟩) 1 1) ∧ W.cell? ⟨g, 3, none⟩ = some (.slice (some ⟨gm, 0, none⟩) 1 1) ∧ W.cell? ⟨gI, 0, none⟩ = some (.string ⟨#[73]⟩) ∧ W.cell? ⟨gI, 1, none⟩ = some (.bool false) ∧ W.cell? ⟨gI, 2, none⟩ = some (.slice none 0 0) ∧ W.cell? ⟨gI, 3, none⟩ = some (.slice (some ⟨gi, 0, none⟩) 1 1) ∧ W.cell? ⟨gJ, 0, none⟩ = some (.string ⟨#[74]⟩) ∧ W.cell? ⟨gJ, 1, none⟩ = some (.bool false) ∧ W.cell? ⟨gJ, 2, none⟩ = some (.slice none 0 0) ∧ W.cell? ⟨gJ, 3, none⟩ = some (.slice (some ⟨gj, 0, none⟩) 1 1)) → ((W.alloc o).cell? ⟨g, 0, none⟩ = some (.string ⟨#[84]⟩) ∧ (W.alloc o).cell? ⟨g, 1, none⟩ = some (.bool true) ∧ (W.alloc o).cell? ⟨g, 2, none⟩ = some (.slice (some ⟨gf, 0, none⟩) 1 1) ∧ (W.alloc o).cell? ⟨g, 3, none⟩ = some (.slice (some ⟨gm, 0, none⟩) 1 1) ∧ (W.alloc o).cell? ⟨gI, 0, none⟩ = some (.string ⟨#[73]⟩) ∧ (W.alloc o).cell? ⟨gI, 1, none⟩ = some (.bool false) ∧ (W.alloc o).cell? ⟨gI, 2, none⟩ = some (.slice none 0 0) ∧ (W.alloc o).cell? ⟨gI, 3, none⟩ = some (.slice (some ⟨gi, 0, none⟩) 1 1) ∧ (W.alloc o).cell? ⟨gJ, 0, none⟩ = some (.string ⟨#[74]⟩) ∧ (W.alloc o).cell? ⟨gJ, 1, none⟩ = some (.bool false) ∧ (W.alloc o).cell? ⟨gJ, 2, none⟩ = some (.slice none 0 0) ∧ (W.alloc o).cell? ⟨gJ, 3, none⟩ = some (.slice (some ⟨gj, 0, none⟩) 1 1)) := fun W o h => ⟨cell_later (bel_alloc (Below.refl W.heap.size W) o) h.1, cell_later (bel_alloc (Below.refl W.heap.size W) o) h.2.1, cell_later (bel_alloc (Below.refl W.heap.size W) o) h.2.2.1, cell_later (bel_alloc (Below.refl W.heap.size W) o) h.2.2.2.1, cell_later (bel_alloc (Below.refl W.heap.size W) o) h.2.2.2.2.1, cell_later (bel_alloc (Below.refl W.heap.size W) o) h.2.2.2.2.2.1, cell_later (bel_alloc (Below.refl W.heap.size W) o) h.2.2.2.2.2.2.1, cell_later (bel_alloc (Below.refl W.heap.size W) o) h.2.2.2.2.2.2.2.1, cell_later (bel_alloc (Below.refl W.heap.size W) o) h.2.2.2.2.2.2.2.2.1, cell_later (bel_alloc (Below.refl W.heap.size W) o) h.2.2.2.2.2.2.2.2.2.1, cell_later (bel_alloc (Below.refl W.heap.size W) o) h.2.2.2.2.2.2.2.2.2.2.1, cell_later (bel_alloc (Below.refl W.heap.size W) o) h.2.2.2.2.2.2.2.2.2.2.2⟩
    have hs0 : W5.cell? ⟨g, 0, none⟩ = some (.string ⟨#[84]⟩) ∧ W5.cell? ⟨g, 1, none⟩ = some (.bool true) ∧ W5.cell? ⟨g, 2, none⟩ = some (.slice (some ⟨gf, 0, none⟩) 1 1) ∧ W5.cell? ⟨g, 3, none⟩ = some (.slice (some ⟨gm, 0, none⟩) 1 1) ∧ W5.cell? ⟨gI, 0, none⟩ = some (.string ⟨#[73]⟩) ∧ W5.cell? ⟨gI, 1, none⟩ = some (.bool false) ∧ W5.cell? ⟨gI, 2, none⟩ = some (.slice none 0 0) ∧ W5.cell? ⟨gI, 3, none⟩ = some (.slice (some ⟨gi, 0, none⟩) 1 1) ∧ W5.cell? ⟨gJ, 0, none⟩ = some (.string ⟨#[74]⟩) ∧ W5.cell? ⟨gJ, 1, none⟩ = some (.bool false) ∧ W5.cell? ⟨gJ, 2, none⟩ = some (.slice none 0 0) ∧ W5.cell? ⟨gJ, 3, none⟩ = some (.slice (some ⟨gj, 0, none⟩) 1 1) := ⟨a0, a1, a2, a3, b0, b1, b2, b3, c0, c1, c2, c3⟩
    have HSd : ∀ (W : World), (W.cell? ⟨g, 0, none⟩ = some (.string ⟨#[84]⟩) ∧ W.cell? ⟨g, 1, none⟩ = some (.bool true) ∧ W.cell? ⟨g, 2, none⟩ = some (.slice (some ⟨gf, 0, none⟩) 1 1) ∧ W.cell? ⟨g, 3, none⟩ = some (.slice (some ⟨gm, 0, none⟩) 1 1) ∧ W.cell? ⟨gI, 0, none⟩ = some (.string ⟨#[73]⟩) ∧ W.cell? ⟨gI, 1, none⟩ = some (.bool false) ∧ W.cell? ⟨gI, 2, none⟩ = some (.slice none 0 0) ∧ W.cell? ⟨gI, 3, none⟩ = some (.slice (some ⟨gi, 0, none⟩) 1 1) ∧ W.cell? ⟨gJ, 0, none⟩ = some (.string ⟨#[74]⟩) ∧ W.cell? ⟨gJ, 1, none⟩ = some (.bool false) ∧ W.cell? ⟨gJ, 2, none⟩ = some (.slice none 0 0) ∧ W.cell? ⟨gJ, 3, none⟩ = some (.slice (some ⟨gj, 0, none⟩) 1 1)) → (W.drew.cell? ⟨g, 0, none⟩ = some (.string ⟨#[84]⟩) ∧ W.drew.cell? ⟨g, 1, none⟩ = some (.bool true) ∧ W.drew.cell? ⟨g, 2, none⟩ = some (.slice (some ⟨gf, 0, none⟩) 1 1) ∧ W.drew.cell? ⟨g, 3, none⟩ = some (.slice (some ⟨gm, 0, none⟩) 1 1) ∧ W.drew.cell? ⟨gI, 0, none⟩ = some (.string ⟨#[73]⟩) ∧ W.drew.cell? ⟨gI, 1, none⟩ = some (.bool false) ∧ W.drew.cell? ⟨gI, 2, none⟩ = some (.slice none 0 0) ∧ W.drew.cell? ⟨gI, 3, none⟩ = some (.slice (some ⟨gi, 0, none⟩) 1 1) ∧ W.drew.cell? ⟨gJ, 0, none⟩ = some (.string ⟨#[74]⟩) ∧ W.drew.cell? ⟨gJ, 1, none⟩ = some (.bool false) ∧ W.drew.cell? ⟨gJ, 2, none⟩ = some (.slice none 0 0) ∧ W.drew.cell? ⟨gJ, 3, none⟩ = some (.slice (some ⟨gj, 0, none⟩) 1 1)) := fun W h => h
    go_cut [0] (fun s0 wx => s0 = .pointer (some ⟨w.heap.size, 0, none⟩) ∧ ScEnd w wx)
    case first =>
      go_region_held3 (fun W : World => W.cell? ⟨g, 0, none⟩ = some (.string ⟨#[84]⟩) ∧ W.cell? ⟨g, 1, none⟩ = some (.bool true) ∧ W.cell? ⟨g, 2, none⟩ = some (.slice (some ⟨gf, 0, none⟩) 1 1) ∧ W.cell? ⟨g, 3, none⟩ = some (.slice (some ⟨gm, 0, none⟩) 1 1) ∧ W.cell? ⟨gI, 0, none⟩ = some (.string ⟨#[73]⟩) ∧ W.cell? ⟨gI, 1, none⟩ = some (.bool false) ∧ W.cell? ⟨gI, 2, none⟩ = some (.slice none 0 0) ∧ W.cell? ⟨gI, 3, none⟩ = some (.slice (some ⟨gi, 0, none⟩) 1 1) ∧ W.cell? ⟨gJ, 0, none⟩ = some (.string ⟨#[74]⟩) ∧ W.cell? ⟨gJ, 1, none⟩ = some (.bool false) ∧ W.cell? ⟨gJ, 2, none⟩ = some (.slice none 0 0) ∧ W.cell? ⟨gJ, 3, none⟩ = some (.slice (some ⟨gj, 0, none⟩) 1 1)) (repeat (first | with_reducible exact hs0 | with_reducible refine HSd _ ?_ | with_reducible refine HS _ _ ?_ | with_reducible refine HSc _ _ _ ?_)) (first | (go_at_call 47; refine (named_c _ _ _).mono ?_; rintro e w3 ⟨rfl, rfl⟩))
      all_goals
        clear HS HSd HSc hs0 a0 a1 a2 a3 b0 b1 b2 b3 c0 c1 c2 c3 ag ag1 ag2 ag3 bg bg1 bg2 bg3 cg cg1 cg2 cg3 r0 fr0 r1 fr1 r2 fr2 r3 fr3 r4 fr4 dg dg1 dg2 dg3 dg4 ng nI nJ
        rename_i J1 K1 hJ1 hK1 hH1
        clear hH1
        refine (show K1 _ _ from hK1 _ _ (Met.intro (hJ1 _ _ ?_)))
        exact ⟨_, _, _, _, _, _, _, _, _, _, _, _, _, _, _, _, _, _, _, _, _, _, _, _, _, _, _, _, ⟨rfl, wfin4 HR.out HPP.out np.out HGF.out nf.out HGM.out nm.out HI.out ni.out HJ.out nj.out HB.out (by first | with_reducible exact blk_alloc (blk_alloc (blk_alloc (blk_new1 (size5 _ _ _ _ _ _ _) _) _) _) _ | with_reducible exact blk_alloc (blk_alloc (blk_new2 (size5 _ _ _ _ _ _ _) _ _) _) _ | with_reducible exact blk_alloc (blk_new3 (size5 _ _ _ _ _ _ _) _ _ _) _ | with_reducible exact blk_new4 (size5 _ _ _ _ _ _ _) _ _ _ _) (by first | with_reducible exact blk_alloc (blk_alloc (blk_alloc (blk_new1 (size5 _ _ _ _ _ _ _) _) _) _) _ | with_reducible exact blk_alloc (blk_alloc (blk_new2 (size5 _ _ _ _ _ _ _) _ _) _) _ | with_reducible exact blk_alloc (blk_new3 (size5 _ _ _ _ _ _ _) _ _ _) _ | with_reducible exact blk_new4 (size5 _ _ _ _ _ _ _) _ _ _ _) (by first | with_reducible exact blk_alloc (blk_alloc (blk_alloc (blk_new1 (size5 _ _ _ _ _ _ _) _) _) _) _ | with_reducible exact blk_alloc (blk_alloc (blk_new2 (size5 _ _ _ _ _ _ _) _ _) _) _ | with_reducible exact blk_alloc (blk_new3 (size5 _ _ _ _ _ _ _) _ _ _) _ | with_reducible exact blk_new4 (size5 _ _ _ _ _ _ _) _ _ _ _)⟩, rfl⟩
    case rest =>
      obtain ⟨rfl, gw, gb, HE, HC, HBE⟩ := hcut
      go_wp2_with (fail)
      exact bodyPost_ret (results_cell_row rfl _ _ w.heap.size 27 #[.slice (some ⟨gw, 0, none⟩) 1 1, .slice none 0 0, .slice none 0 0, .slice (some ⟨gb, 0, none⟩) 1 1, .slice none 0 0] (0, 0) _ rfl HE.out Try.underlying27 rfl (info27s.trans rfl)) rfl ⟨⟨some ⟨gw, 0, none⟩, 1, none, 0, 0, none, 0, 0, some ⟨gb, 0, none⟩, 1, none, 0, 0⟩, rfl, HC.out, HBE.out⟩
end Go.Proofs.Ytbhagjhhgmmcgaa
