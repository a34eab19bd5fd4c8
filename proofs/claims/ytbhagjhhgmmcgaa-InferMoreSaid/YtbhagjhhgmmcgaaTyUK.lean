/- infer.Call: what it comes to, plainly; the rows of what is wrong. What bounds a law's inputs (infer): parts, small, little; two lists of what is wrong. -/
import Derived.Test.YtbhagjhhgmmcgaaTyUG
import Derived.Test.YtbhagjhhgmmcgaaTyN
import Derived.Test.YtbhagjhhgmmcgaaTyHB
namespace Go.Proofs.Ytbhagjhhgmmcgaa
open Go.RowKit PRef Go.Proofs.YtbhagjhhgmmcgaaW.PrintWords
set_option linter.unusedVariables false

abbrev Wr := Int × Int
def wrC (p : Wr) : List Value := [.int .i64 p.1, .int .i64 p.2]
theorem wrC_one (l : List Wr) : ∀ u ∈ l.flatMap wrC, u.oneCell' = true := by
  intro u hu
  obtain ⟨p, _, hp⟩ := List.mem_flatMap.1 hu
  simp [wrC] at hp
  rcases hp with rfl | rfl <;> rfl
def boundBad (W : List Ifc) (B : List Ty) (t b : Ty) : Bool := t.f0 == 0 || (b.f0 != 0 && !meetsP W B t b)
def callA (n m : Nat) : List Wr := if n = m then [] else [(-1, 12)]
def callB (W : List Ifc) (B ts bs : List Ty) (k : Nat) : List Wr := (List.range k).flatMap fun i => if boundBad W B (ts.getD i zTy) (bs.getD i zTy) then [(-1, 15)] else []
def callP (W : List Ifc) (B types ps qs : List Ty) (k : Nat) : List Wr := (List.range k).flatMap fun i => if assignP W B (qs.getD i zTy) (substT types (ps.getD i zTy)) then [] else [((i : Int), 11)]
def callL (W : List Ifc) (B : List Ty) (f : Fun) (args : List Ty) : List Wr :=
  callA args.length f.f2.length ++ callB W B (unifyN f.f2 args f.f1.length) f.f1 (unifyN f.f2 args f.f1.length).length ++ callP W B (unifyN f.f2 args f.f1.length) f.f2 args (min f.f2.length args.length)
def callT (f : Fun) (args : List Ty) : Ty := substT (unifyN f.f2 args f.f1.length) f.f3
theorem callA_len (n m : Nat) : (callA n m).length ≤ 1 := by unfold callA; split <;> simp
theorem callB_succ (W : List Ifc) (B ts bs : List Ty) (k : Nat) : callB W B ts bs (k + 1) = callB W B ts bs k ++ (if boundBad W B (ts.getD k zTy) (bs.getD k zTy) then [(-1, 15)] else []) := by
  unfold callB; rw [List.range_succ, List.flatMap_append, List.flatMap_singleton]
theorem callP_succ (W : List Ifc) (B ts ps qs : List Ty) (k : Nat) : callP W B ts ps qs (k + 1) = callP W B ts ps qs k ++ (if assignP W B (qs.getD k zTy) (substT ts (ps.getD k zTy)) then [] else [((k : Int), 11)]) := by
  unfold callP; rw [List.range_succ, List.flatMap_append, List.flatMap_singleton]
theorem callB_len (W : List Ifc) (B ts bs : List Ty) : ∀ k : Nat, (callB W B ts bs k).length ≤ k
  | 0 => by simp [callB]
  | k + 1 => by
    rw [callB_succ, List.length_append]
    have h1 := callB_len W B ts bs k
    have h2 : (if boundBad W B (ts.getD k zTy) (bs.getD k zTy) then [((-1 : Int), (15 : Int))] else []).length ≤ 1 := by split <;> simp
    omega
theorem callP_len (W : List Ifc) (B ts ps qs : List Ty) : ∀ k : Nat, (callP W B ts ps qs k).length ≤ k
  | 0 => by simp [callP]
  | k + 1 => by
    rw [callP_succ, List.length_append]
    have h1 := callP_len W B ts ps qs k
    have h2 : (if assignP W B (qs.getD k zTy) (substT ts (ps.getD k zTy)) then [] else [((k : Int), (11 : Int))]).length ≤ 1 := by split <;> simp
    omega
theorem unifyN_len (ps qs : List Ty) (n : Nat) : (unifyN ps qs n).length ≤ n ∧ (unifyN ps qs n).length ≤ 16 := by
  unfold unifyN
  split
  · rw [unifyL_len]; omega
  · simp

/-- The list of what is wrong, at a world: a row of the call's own. -/
def Wrs (w : World) (base : Nat) (v : Value) (l : List Wr) : Prop := w.ownsRow base 66 2 v l.length (l.flatMap wrC)
theorem Wrs.below {w w' : World} {base : Nat} {v : Value} {l : List Wr} (h : Wrs w base v l) (hb : Below w.heap.size w w') : Wrs w' base v l := own_later h hb
theorem Wrs.nil (w : World) (base : Nat) : Wrs w base (.slice none 0 0) [] := World.ownsRow_nil ..
theorem infoWr : (Try.prog.info? 66).map (fun i => (i.zero, i.size, i.bytes)) = some (some (.agg #[.int .i64 0, .int .i64 0]), 2, 16) := by kernel_rfl
/-- Behind an append. -/
theorem Wrs.app {w' : World} {base g cap n : Nat} {l : List Wr} (p : Wr) (hn : n = l.length) (h : w'.ownsRow base 66 2 (.slice (some ⟨g, 0, none⟩) (n + 1) cap) (n + 1) (l.flatMap wrC ++ wrC p)) : Wrs w' base (.slice (some ⟨g, 0, none⟩) (n + 1) cap) (l ++ [p]) := by
  unfold Wrs
  subst hn
  rw [List.length_append, List.length_singleton, List.flatMap_append, List.flatMap_singleton]
  exact h
theorem Wrs.boxed {w w' : World} {base b : Nat} {v : Value} {l : List Wr} {cs : Array Value} {t : TypeId} {f : Nat × Nat} (h : Wrs w base v l) (hg : w.grownBy w' v.ownBlock) (hb : w.heap[b]? = some (.cells cs t f)) (ht : b < base) : w'.heap[b]? = some (.cells cs t f) :=
  (hg.block b (blk_lt hb) (fun e => by have := own_base h b e.symm; omega)).trans hb
theorem Wrs.bel {w0 w w' : World} {base B : Nat} {v : Value} {l : List Wr} (h : Wrs w base v l) (hg : w.grownBy w' v.ownBlock) (hb : Below B w0 w) (hB : B ≤ base) (hs : B ≤ w.heap.size) : Below B w0 w' :=
  hb.grown hg hs (fun k e => by have := own_base h k e; omega)
/-- Cells of the call's own below the row's base are no part of it. -/
theorem Wrs.set {w : World} {base b j : Nat} {v u : Value} {l : List Wr} (h : Wrs w base v l) (hb : b < base) : Wrs (w.setCell ⟨b, j, none⟩ u) base v l :=
  own_kept h fun g hg => blk_far _ _ _ _ _ (fun e => by have := own_base h g hg; omega)
end Go.Proofs.Ytbhagjhhgmmcgaa
namespace Go.Proofs.Ytbhagjhhgmmcgaa
open Go.RowKit PRef Go.Proofs.YtbhagjhhgmmcgaaW.PrintWords
set_option linter.unusedVariables false
set_option linter.unusedSimpArgs false

theorem partsL_append : ∀ (l m : List Ty) (n : Int), partsL (l ++ m) n = partsL m (partsL l n)
  | [], m, n => by simp [partsL]
  | a :: r, m, n => by
    rw [List.cons_append, partsL, partsL]
    by_cases h : n ≤ 60
    · rw [if_pos h, if_pos h, partsL_append r m]
    · rw [if_neg h, if_neg h, partsL_big _ _ (by omega)]
theorem parts_bound : ∀ (t : Ty) (n : Int), n ≤ 60 → n ≤ partsT t n ∧ partsT t n ≤ 61 := by
  intro t
  induction tyAll t with
  | mk t hs ih =>
    have hl : ∀ (l : List Ty), (∀ x ∈ l, ∀ n : Int, n ≤ 60 → n ≤ partsT x n ∧ partsT x n ≤ 61) → ∀ n : Int, n ≤ 61 → n ≤ partsL l n ∧ partsL l n ≤ 61 := by
      intro l
      induction l with
      | nil => intro _ n hn; simp [partsL]; exact hn
      | cons a r ihr =>
        intro h n hn
        rw [partsL]
        by_cases h6 : n ≤ 60
        · rw [if_pos h6]
          have h1 := h a List.mem_cons_self n h6
          have h2 := ihr (fun x hx => h x (List.mem_cons_of_mem _ hx)) (partsT a n) h1.2
          omega
        · rw [if_neg h6]
          omega
    intro n hn
    rw [partsT_eq]
    have := hl t.f4 ih (n + 1) (by omega)
    omega
theorem partsL_bound (l : List Ty) : ∀ n : Int, n ≤ 61 → n ≤ partsL l n ∧ partsL l n ≤ 61 := by
  induction l with
  | nil => intro n hn; simp [partsL]; exact hn
  | cons a r ihr =>
    intro n hn
    rw [partsL]
    by_cases h6 : n ≤ 60
    · rw [if_pos h6]
      have h1 := parts_bound a n h6
      have h2 := ihr (partsT a n) h1.2
      omega
    · rw [if_neg h6]
      omega

set_option maxRecDepth 100000 in
set_option maxHeartbeats 4000000 in
theorem parts12_any {a : Ty} (ha : TyAll a) : ∀ (A : Option Addr) (c : Nat) (n : Int) (w : World), 0 ≤ n → n ≤ 60 → Kd.C kTy w A a.f4.length a.f4 → a.f4.length ≤ c →
    Calls Try.prog 42 #[.agg #[.int .i64 a.f0, .string a.f1, .string a.f2, .int .i64 a.f3, .slice A a.f4.length c], .int .i64 n] w fun e w' => e = .returned (.int .i64 (partsT a n)) ∧ Below w.heap.size w w' := by
  induction ha with
  | mk t hs ih =>
    intro A c n w hn0 hn hA hc
    have hpt := partsT_eq t n
    obtain ⟨k, p, q, m, l⟩ := t
    dsimp only at hs ih hA hc hpt ⊢
    rw [hpt]
    have hlm : l.length ≤ 9223372036854775807 := hA.2.1
    have HB := Lib.hid (bel_alloc (Below.refl w.heap.size w) (.cells #[.int .i64 k, .string p, .string q, .int .i64 m, .slice A l.length c] 29))
    have HT := Lib.hid (blk_new w (.cells #[.int .i64 k, .string p, .string q, .int .i64 m, .slice A l.length c] 29))
    have HA := Lib.hid hA
    have IH := Lib.hid ih
    have HNN := Lib.hid (And.intro hn0 hn)
    clear hA ih hs hpt
    go_enter Try.func42, Try.ntmps42
    go_wp2_with (fail)
    go_loopw [1, 5] (fun v1 vi wr => ∃ (x : Int) (j : Nat), v1 = .int .i64 x ∧ vi = .int .i64 j ∧ Hid (x = partsL (l.take j) (n + 1)) ∧ Hid (j ≤ l.length) ∧ Hid (wr.heap[w.heap.size]? = some (.cells #[.int .i64 k, .string p, .string q, .int .i64 m, .slice A l.length c] 29 (0, 0))) ∧ Hid (Below w.heap.size w wr)) (fun _ vi _ => l.length - (intOf vi).toNat)
    case atStart => exact ⟨n + 1, 0, rfl, rfl, Lib.hid (by simp [partsL]), Lib.hid (Nat.zero_le _), HT, HB⟩
    case round =>
      clear HT HB
      obtain ⟨x, j, rfl, rfl, HX, HK, HT, HB⟩ := hrel
      have hxb := partsL_bound (l.take j) (n + 1) (by have := HNN.out; omega)
      rw [← HX.out] at hxb
      have tt := (blk_cell HT.out 4).trans rfl
      by_cases hlt : j < l.length
      · by_cases hx : x ≤ 60
        · have dx : decide (x ≤ 60) = true := decide_eq_true hx
          obtain ⟨y, hy⟩ : ∃ y, l[j]? = some y := ⟨_, List.getElem?_eq_getElem hlt⟩
          obtain ⟨ax, X4, e4, hAx, x0, x1, x2, x3, x4, lx, gx⟩ := at_T29 HA.out (j : Int) (by omega) (by omega)
          rw [show rd_T29 l (j : Int) = y from by unfold rd_T29; rw [Int.toNat_natCast, List.getD_eq_getElem?_getD, hy]; rfl] at x0 x1 x2 x3 x4 lx gx
          rw [Int.toNat_natCast] at x0 x1 x2 x3 x4
          subst hAx
          replace x0 := cell_later HB.out x0
          replace x1 := cell_later HB.out x1
          replace x2 := cell_later HB.out x2
          replace x3 := cell_later HB.out x3
          replace x4 := cell_later HB.out x4
          have HI := Lib.hid (IH.out y (List.mem_of_getElem? hy) X4 e4 x wr (by have := HNN.out; omega) hx (Kd.C_below gx HB.out) lx)
          have HNX : Hid (partsT y x = partsL (l.take (j + 1)) (n + 1)) := Lib.hid (by
            obtain ⟨hk, rfl⟩ := List.getElem?_eq_some_iff.1 hy
            rw [List.take_succ_eq_append_getElem hk, partsL_append, ← HX.out, partsL, if_pos hx, partsL])
          generalize partsT y x = r at *
          have i0 : 0 ≤ (j : Int) := by omega
          have i1 : (j : Int) < l.length := by omega
          have HLT := Lib.hid hlt
          clear hy lx gx hx hxb
          go_wp2_with (fail)
          refine HI.out.mono ?_
          rintro e w8 ⟨rfl, hb8⟩
          have hB2 := Lib.hid (bel_trans HB.out hb8)
          have hT2 := Lib.hid (blk_later hb8 HT.out)
          clear hb8
          go_wp2_with (fail)
          go_roundw
          case rel => exact ⟨r, j + 1, rfl, by go_num, HNX, Lib.hid HLT.out, hT2, hB2⟩
          case measure => have := HLT.out; simp [intOf]; omega
        · have dx : decide (x ≤ 60) = false := decide_eq_false hx
          have HE : Hid (partsL l (n + 1) = x) := Lib.hid (by
            rw [← List.take_append_drop j l, partsL_append, ← HX.out, partsL_big _ _ (by omega)])
          clear hx hxb
          go_wp2_with (fail)
          go_ret
          exact ⟨by rw [HE.out]; rfl, HB.out⟩
      · obtain rfl : j = l.length := by have := HK.out; omega
        have HE : Hid (partsL l (n + 1) = x) := Lib.hid (by rw [HX.out, List.take_length])
        clear hxb
        go_wp2_with (fail)
        go_ret
        exact ⟨by rw [HE.out]; rfl, HB.out⟩

def SmallL (l : List Ty) : Prop := l.length ≤ 20 ∧ ∀ x ∈ l, szT x ≤ 60
theorem parts_small {t : Ty} (h : partsT t 0 ≤ 60) : szT t ≤ 60 := by
  have := parts_sz t 0 h
  omega
set_option maxRecDepth 100000 in
set_option maxHeartbeats 4000000 in
theorem small12_any (l : List Ty) (A : Option Addr) (c : Nat) (w : World) (hA : Kd.C kTy w A l.length l) (hc : l.length ≤ c) :
    Calls Try.prog 37 #[.slice A l.length c] w fun e w' => ∃ r : Bool, e = .returned (.bool r) ∧ (r = true → SmallL l) ∧ Below w.heap.size w w' := by
  have hlm : l.length ≤ 9223372036854775807 := hA.2.1
  have HA := Lib.hid hA
  have HB := Lib.hid (Below.refl w.heap.size w)
  clear hA
  by_cases h20 : 20 < l.length
  · have d20 : decide (20 < (l.length : Int)) = true := decide_eq_true (by omega)
    clear HA h20
    go_enter Try.func37, Try.ntmps37
    go_wp2_with (fail)
    go_ret
    exact ⟨false, rfl, fun h => by simp at h, HB.out⟩
  · have d20 : decide (20 < (l.length : Int)) = false := decide_eq_false (by omega)
    have H20 := Lib.hid h20
    clear h20
    go_enter Try.func37, Try.ntmps37
    go_wp2_with (fail)
    clear d20
    go_loopw [3] (fun vi wr => ∃ j : Nat, vi = .int .i64 j ∧ Hid (j ≤ l.length) ∧ Hid (∀ x ∈ l.take j, szT x ≤ 60) ∧ Hid (Below w.heap.size w wr)) (fun vi _ => l.length - (intOf vi).toNat)
    case atStart => exact ⟨0, rfl, Lib.hid (Nat.zero_le _), Lib.hid (by simp), HB⟩
    case round =>
      clear HB
      obtain ⟨j, rfl, HK, HS, HB⟩ := hrel
      by_cases hlt : j < l.length
      · obtain ⟨y, hy⟩ : ∃ y, l[j]? = some y := ⟨_, List.getElem?_eq_getElem hlt⟩
        obtain ⟨ax, X4, e4, hAx, x0, x1, x2, x3, x4, lx, gx⟩ := at_T29 HA.out (j : Int) (by omega) (by omega)
        rw [show rd_T29 l (j : Int) = y from by unfold rd_T29; rw [Int.toNat_natCast, List.getD_eq_getElem?_getD, hy]; rfl] at x0 x1 x2 x3 x4 lx gx
        rw [Int.toNat_natCast] at x0 x1 x2 x3 x4
        subst hAx
        replace x0 := cell_later HB.out x0
        replace x1 := cell_later HB.out x1
        replace x2 := cell_later HB.out x2
        replace x3 := cell_later HB.out x3
        replace x4 := cell_later HB.out x4
        have HI := Lib.hid (parts12_any (tyAll y) X4 e4 0 wr (by omega) (by omega) (Kd.C_below gx HB.out) lx)
        have HNX : Hid (partsT y 0 ≤ 60 → ∀ x ∈ l.take (j + 1), szT x ≤ 60) := Lib.hid (fun h => by
          obtain ⟨hk, rfl⟩ := List.getElem?_eq_some_iff.1 hy
          rw [List.take_succ_eq_append_getElem hk]
          intro x hx
          rcases List.mem_append.1 hx with hx | hx
          · exact HS.out x hx
          · simp at hx; subst hx; exact parts_small h)
        generalize partsT y 0 = r at *
        have i0 : 0 ≤ (j : Int) := by omega
        have i1 : (j : Int) < l.length := by omega
        have HLT := Lib.hid hlt
        have hdr : decide (60 < r) = true ∨ (decide (60 < r) = false ∧ r ≤ 60) := by
          by_cases h : 60 < r
          · exact .inl (decide_eq_true h)
          · exact .inr ⟨decide_eq_false h, by omega⟩
        clear hy lx gx
        rcases hdr with hd | ⟨hd, hr6⟩
        · go_wp2_with (fail)
          refine HI.out.mono ?_
          rintro e w8 ⟨rfl, hb8⟩
          have hB2 := Lib.hid (bel_trans HB.out hb8)
          clear hb8
          go_wp2_with (fail)
          go_ret
          exact ⟨false, rfl, fun h => by simp at h, hB2.out⟩
        · have HR6 := Lib.hid hr6
          clear hr6
          go_wp2_with (fail)
          refine HI.out.mono ?_
          rintro e w8 ⟨rfl, hb8⟩
          have hB2 := Lib.hid (bel_trans HB.out hb8)
          clear hb8
          go_wp2_with (fail)
          go_roundw
          case rel => exact ⟨j + 1, by go_num, Lib.hid HLT.out, Lib.hid (HNX.out HR6.out), hB2⟩
          case measure => have := HLT.out; simp [intOf]; omega
      · obtain rfl : j = l.length := by have := HK.out; omega
        go_wp2_with (fail)
        go_ret
        refine ⟨true, rfl, fun _ => ⟨by have := H20.out; omega, ?_⟩, HB.out⟩
        have h := HS.out
        rw [List.take_length] at h
        exact h

theorem C_same {w : World} {base : Nat} {v : Value} {l : List Wr} (h : Wrs w base v l) : ∃ A c, v = .slice A l.length c ∧ l.length ≤ c ∧ ∀ (j : Nat) (p : Wr), l[j]? = some p → ∃ ad : Addr, A = some ad ∧ w.cell? (ad.add (j * 2)) = some (.int .i64 p.1) ∧ w.cell? ⟨(ad.add (j * 2)).block, (ad.add (j * 2)).off + 1, none⟩ = some (.int .i64 p.2) := by
  obtain ⟨A, c, rfl, hc⟩ := own_slice h
  refine ⟨A, c, rfl, hc, fun j p hp => ?_⟩
  have hj : j < l.length := (List.getElem?_eq_some_iff.1 hp).1
  rcases h.2 with ⟨_, h0⟩ | ⟨g, cap, cur, hv, _, hg, _⟩
  · omega
  · injection hv with hA _ _
    subst hA
    have hf : ∀ i, i < 2 → (l.flatMap wrC)[j * 2 + i]? = (wrC p)[i]? := by
      intro i hi
      have hm : l.flatMap wrC = (l.map wrC).flatten := by rw [List.flatMap_def]
      rw [hm, flatten_at 2 (by decide) (l.map wrC) (by intro cs hcs; obtain ⟨q, _, rfl⟩ := List.mem_map.1 hcs; rfl), show (j * 2 + i) / 2 = j by omega, show (j * 2 + i) % 2 = i by omega, List.getElem?_map, hp]
      rfl
    have h0 := h.cells (g := g) rfl (j * 2) (.int .i64 p.1) (by have := hf 0 (by omega); simpa [wrC] using this)
    have h1 := h.cells (g := g) rfl (j * 2 + 1) (.int .i64 p.2) (by have := hf 1 (by omega); simpa [wrC] using this)
    refine ⟨_, rfl, h0, ?_⟩
    have e1 : (⟨((⟨g, 0, none⟩ : Addr).add (j * 2)).block, ((⟨g, 0, none⟩ : Addr).add (j * 2)).off + 1, none⟩ : Addr) = (⟨g, 0, none⟩ : Addr).add (j * 2 + 1) := by
      by_cases hk : j * 2 = 0 <;> simp [Addr.add, hk]
    rw [e1]
    exact h1
/-- A row of what is wrong, as it is read. -/
def RdW (w : World) (A : Option Addr) (l : List Wr) : Prop := ∀ (j : Nat) (p : Wr), l[j]? = some p → ∃ ad : Addr, A = some ad ∧ w.cell? (ad.add (j * 2)) = some (.int .i64 p.1) ∧ w.cell? ⟨(ad.add (j * 2)).block, (ad.add (j * 2)).off + 1, none⟩ = some (.int .i64 p.2)
theorem RdW.later {w w' : World} {A : Option Addr} {l : List Wr} (h : RdW w A l) (hb : Below w.heap.size w w') : RdW w' A l := fun j p hp => by
  obtain ⟨ad, h1, h2, h3⟩ := h j p hp
  exact ⟨ad, h1, cell_later hb h2, cell_later hb h3⟩
set_option maxRecDepth 100000 in
set_option maxHeartbeats 4000000 in
theorem same12_any (l : List Wr) (A B : Option Addr) (c d : Nat) (w : World) (hl : l.length ≤ 9223372036854775807) (hA : RdW w A l) (hc : l.length ≤ c) (hB : RdW w B l) (hd : l.length ≤ d) :
    Calls Try.prog 45 #[.slice A l.length c, .slice B l.length d] w fun e w' => e = .returned (.bool true) ∧ Below w.heap.size w w' := by
  have HA := Lib.hid hA
  have HA' := Lib.hid hB
  have HB := Lib.hid (Below.refl w.heap.size w)
  clear hA hB
  go_enter Try.func45, Try.ntmps45
  go_wp2_with (fail)
  go_loopw [5] (fun vi wr => ∃ j : Nat, vi = .int .i64 j ∧ Hid (j ≤ l.length) ∧ Hid (Below w.heap.size w wr)) (fun vi _ => l.length - (intOf vi).toNat)
  case atStart => exact ⟨0, rfl, Lib.hid (Nat.zero_le _), HB⟩
  case round =>
    clear HB
    obtain ⟨j, rfl, HK, HB⟩ := hrel
    by_cases hlt : j < l.length
    · obtain ⟨y, hy⟩ : ∃ y, l[j]? = some y := ⟨_, List.getElem?_eq_getElem hlt⟩
      obtain ⟨ax, hAx, x0, x1⟩ := HA.out j y hy
      obtain ⟨ay, hAy, y0, y1⟩ := HA'.out j y hy
      subst hAx hAy
      replace x0 := cell_later (bel_drew HB.out) x0
      replace x1 := cell_later (bel_drew HB.out) x1
      replace y0 := cell_later (bel_drew HB.out) y0
      replace y1 := cell_later (bel_drew HB.out) y1
      have i0 : 0 ≤ (j : Int) := by omega
      have i1 : (j : Int) < l.length := by omega
      have HLT := Lib.hid hlt
      have hB2 := Lib.hid (bel_drew HB.out)
      clear hy
      go_wp2_with (fail)
      go_region
      all_goals
        go_wp2_with (fail)
        go_roundw
        case rel => exact ⟨j + 1, by go_num, Lib.hid HLT.out, hB2⟩
        case measure => have := HLT.out; simp [intOf]; omega
    · obtain rfl : j = l.length := by have := HK.out; omega
      go_wp2_with (fail)
      go_ret
      exact ⟨rfl, HB.out⟩
end Go.Proofs.Ytbhagjhhgmmcgaa
