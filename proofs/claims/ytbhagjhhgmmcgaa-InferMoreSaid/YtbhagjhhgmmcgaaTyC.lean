/- The walk of term.Subst without arguments, and of term.own. -/
import Derived.Test.YtbhagjhhgmmcgaaTyB
namespace Go.Proofs.Ytbhagjhhgmmcgaa
open Go.RowKit PRef Go.Proofs.YtbhagjhhgmmcgaaW.PrintWords
set_option linter.unusedVariables false

def tyV (t : Ty) (A : Option Addr) (c : Nat) : Value := .agg #[.int .i64 t.f0, .string t.f1, .string t.f2, .int .i64 t.f3, .slice A t.f4.length c]

/-- One element of the row. -/
theorem TyRow.get {W : World} {g B0 B k : Nat} {l : List Ty} (h : TyRow W g B0 B k l) (j : Nat) (x : Ty) (hx : l[j]? = some x) : ∃ A c, W.cell? ⟨g, j * 5, none⟩ = some (.int .i64 x.f0) ∧ W.cell? ⟨g, j * 5 + 1, none⟩ = some (.string x.f1) ∧ W.cell? ⟨g, j * 5 + 2, none⟩ = some (.string x.f2) ∧ W.cell? ⟨g, j * 5 + 3, none⟩ = some (.int .i64 x.f3) ∧ W.cell? ⟨g, j * 5 + 4, none⟩ = some (.slice A x.f4.length c) ∧ x.f4.length ≤ c ∧ Kd.C kTy W A x.f4.length x.f4 := by
  obtain ⟨cur, hb, hc⟩ := h
  obtain ⟨cs, h1, h2, h3⟩ := hc j x hx
  obtain ⟨A4, c4, rfl, l4, g4⟩ := k29_open (Foot.now h3)
  exact ⟨A4, c4, (blk_cell hb _).trans (h2 0 _ rfl), (blk_cell hb _).trans (h2 1 _ rfl), (blk_cell hb _).trans (h2 2 _ rfl), (blk_cell hb _).trans (h2 3 _ rfl), (blk_cell hb _).trans (h2 4 _ rfl), l4, g4⟩
theorem TyRow.free {W : World} {g B0 B k : Nat} {l : List Ty} (h : TyRow W g B0 B k l) (j : Nat) : W.frozen? ⟨g, j, none⟩ = false := by
  obtain ⟨cur, hb, _⟩ := h
  exact blk_free hb j
theorem TyRow.lt {W : World} {g B0 B k : Nat} {l : List Ty} (h : TyRow W g B0 B k l) : g < W.heap.size := by
  obtain ⟨cur, hb, _⟩ := h
  exact blk_lt hb

theorem sizeTy : (Try.prog.info? 29).map (·.size) = some 5 := by kernel_rfl
theorem six_far (W : World) (h : Nat) (v u0 u1 u2 u3 u4 : Value) (b : Nat) (h1 : b ≠ h) (h2 : b ≠ h + 1) : ((((((W.setCell ⟨h, 4, none⟩ v).setCell ⟨h + 1, 0, none⟩ u0).setCell ⟨h + 1, 1, none⟩ u1).setCell ⟨h + 1, 2, none⟩ u2).setCell ⟨h + 1, 3, none⟩ u3).setCell ⟨h + 1, 4, none⟩ u4).heap[b]? = W.heap[b]? := by
  rw [blk_far _ _ _ _ _ h2, blk_far _ _ _ _ _ h2, blk_far _ _ _ _ _ h2, blk_far _ _ _ _ _ h2, blk_far _ _ _ _ _ h2, blk_far _ _ _ _ _ h1]
theorem subst_end {R : Ending → World → Prop} {a : Act} {W : World} {h : Nat} {v u0 u1 u2 u3 u4 x0 x1 x2 x3 x4 : Value} (hR : W.heap[h + 1]? = some (.cells #[x0, x1, x2, x3, x4] 29 (0, 0))) (hp : a.tmps.getD 4 undef = .pointer (some ⟨h + 1, 0, none⟩)) (hd : a.defers = [])
    (hQ : R (.returned (.agg #[u0, u1, u2, u3, u4])) ((((((W.setCell ⟨h, 4, none⟩ v).setCell ⟨h + 1, 0, none⟩ u0).setCell ⟨h + 1, 1, none⟩ u1).setCell ⟨h + 1, 2, none⟩ u2).setCell ⟨h + 1, 3, none⟩ u3).setCell ⟨h + 1, 4, none⟩ u4)) :
    bodyPost Try.prog Try.f67 R .ret a ((((((W.setCell ⟨h, 4, none⟩ v).setCell ⟨h + 1, 0, none⟩ u0).setCell ⟨h + 1, 1, none⟩ u1).setCell ⟨h + 1, 2, none⟩ u2).setCell ⟨h + 1, 3, none⟩ u3).setCell ⟨h + 1, 4, none⟩ u4) := by
  have h1 := (blk_far W h 4 (h + 1) v (by omega)).trans hR
  have h2 := blk_set (blk_set (blk_set (blk_set (blk_set h1 0 u0) 1 u1) 2 u2) 3 u3) 4 u4
  exact bodyPost_ret (results_cell_row rfl a.tmps _ (h + 1) 29 #[u0, u1, u2, u3, u4] (0, 0) _ hp (h2.trans rfl) Try.underlying29 rfl (sizeTy.trans rfl)) hd hQ

set_option maxRecDepth 100000 in
set_option maxHeartbeats 1000000 in
theorem subst_nil {t : Ty} (ht : TyOk t) : ∀ (A : Option Addr) (c : Nat) (w : World), Kd.C kTy w A t.f4.length t.f4 → t.f4.length ≤ c →
    Calls Try.prog 67 #[tyV t A c, .slice none 0 0] w fun e w' => ∃ A' c', e = .returned (tyV t A' c') ∧ t.f4.length ≤ c' ∧ Kd.F kTy w' (fun b => w.heap.size ≤ b) A' t.f4.length t.f4 ∧ Below w.heap.size w w' := by
  induction ht with
  | mk t hlen hs ih =>
  intro A c w h hc
  have IH := Lib.hid ih
  clear hs ih
  obtain ⟨f0, f1, f2, f3, l⟩ := t
  simp only [tyV] at *
  have HC := Lib.hid (fun (W : World) (hb : Below w.heap.size w W) => cloneTy_any l A c w W h hb hc hlen)
  have HLEN := Lib.hid hlen
  clear h hlen
  have hcs : ((f0 == 6) = false) ∨ ((f0 == 6) = true ∧ decide (0 ≤ f3) = false) ∨ ((f0 == 6) = true ∧ decide (0 ≤ f3) = true ∧ decide (f3 < 0) = false) := by
    by_cases h6 : f0 = 6
    · subst h6
      by_cases h3 : 0 ≤ f3
      · exact .inr (.inr ⟨rfl, decide_eq_true h3, decide_eq_false (by omega)⟩)
      · exact .inr (.inl ⟨rfl, decide_eq_false h3⟩)
    · exact .inl (by simpa using h6)
  have HB0 := Lib.hid (bel_alloc (bel_alloc (Below.refl w.heap.size w) (.cells #[.int .i64 f0, .string f1, .string f2, .int .i64 f3, .slice A l.length c] 29)) (.cells #[.int .i64 0, .string ⟨#[]⟩, .string ⟨#[]⟩, .int .i64 0, .slice none 0 0] 29))
  have HN0 := Lib.hid (blk_alloc (blk_new w (.cells #[.int .i64 f0, .string f1, .string f2, .int .i64 f3, .slice A l.length c] 29)) (.cells #[.int .i64 0, .string ⟨#[]⟩, .string ⟨#[]⟩, .int .i64 0, .slice none 0 0] 29))
  have HR0 := Lib.hid (show ((w.alloc (.cells #[.int .i64 f0, .string f1, .string f2, .int .i64 f3, .slice A l.length c] 29)).alloc (.cells #[.int .i64 0, .string ⟨#[]⟩, .string ⟨#[]⟩, .int .i64 0, .slice none 0 0] 29)).heap[w.heap.size + 1]? = some (.cells #[.int .i64 0, .string ⟨#[]⟩, .string ⟨#[]⟩, .int .i64 0, .slice none 0 0] 29 (0, 0)) by simpa using blk_new (w.alloc (.cells #[.int .i64 f0, .string f1, .string f2, .int .i64 f3, .slice A l.length c] 29)) (.cells #[.int .i64 0, .string ⟨#[]⟩, .string ⟨#[]⟩, .int .i64 0, .slice none 0 0] 29))
  rcases hcs with z1 | ⟨z1, z2⟩ | ⟨z1, z2, z3⟩
  all_goals
    go_enter Try.func67, Try.ntmps67
    go_wp2_with (fail)
    refine (HC.out _ HB0.out).mono ?_
    rintro e w1 ⟨v, rfl, hcl, hb1⟩
    have HB1 := Lib.hid (bel_trans HB0.out hb1)
    have HN1 := Lib.hid (blk_later hb1 HN0.out)
    have HR1 := Lib.hid (blk_later hb1 HR0.out)
    have HCL := Lib.hid (And.intro hcl hb1)
    have HB0X := HB0
    clear hcl hb1 HC HB0 HN0 HR0
    by_cases hn : 0 < l.length
    · obtain ⟨g, c', rfl, hc', hg, hrow⟩ := TyRow.of_clone HCL.out.1 HB0X.out HCL.out.2 hn
      have hg2 : w.heap.size + 2 ≤ g := by simpa using hg
      have HROW : Hid (TyRow w1 g w.heap.size (w.heap.size + 2) 0 l) := Lib.hid (by simpa using hrow)
      have HG := Lib.hid hg2
      clear HCL hg hrow hg2
      go_wp2_with (fail)
      go_loopw [34] (fun iv wr => ∃ k : Nat, k ≤ l.length ∧ iv = .int .i64 k ∧ Hid (TyRow wr g w.heap.size (w.heap.size + 2) k l) ∧ Hid (Below w.heap.size w wr) ∧ Hid (wr.heap[w.heap.size]? = some (.cells #[.int .i64 f0, .string f1, .string f2, .int .i64 f3, .slice A l.length c] 29 (0, 0))) ∧ Hid (wr.heap[w.heap.size + 1]? = some (.cells #[.int .i64 0, .string ⟨#[]⟩, .string ⟨#[]⟩, .int .i64 0, .slice none 0 0] 29 (0, 0)))) (fun iv _ => l.length - (intOf iv).toNat)
      case atStart => exact ⟨0, Nat.zero_le _, rfl, HROW, HB1, HN1, HR1⟩
      case round =>
        obtain ⟨k, hk, rfl, HROW, HB, HN, HR⟩ := hrel
        by_cases hlt : k < l.length
        · obtain ⟨x, hx⟩ : ∃ x, l[k]? = some x := ⟨_, List.getElem?_eq_getElem hlt⟩
          obtain ⟨A4, c4, q0, q1, q2, q3, q4, l4, g4⟩ := HROW.out.get k x hx
          have hmem := List.mem_of_getElem? hx
          have HSUB := Lib.hid (IH.out x hmem A4 c4 (wr.alloc (.cells #[.int .i64 x.f0, .string x.f1, .string x.f2, .int .i64 x.f3, .slice A4 x.f4.length c4] 29)) (Kd.C_below g4 (bel_alloc (Below.refl _ _) _)) l4)
          have e1 : 0 ≤ (k : Int) := by omega
          have e2 : (k : Int) < l.length := by omega
          have HXX := Lib.hid hx
          have hlb : l.length ≤ 140737488355328 := by have := HLEN.out; omega
          have HLT : Hid (k + 1 ≤ l.length) := Lib.hid hlt
          have HGL : Hid (g < wr.heap.size) := Lib.hid HROW.out.lt
          clear g4 hmem hx
          obtain ⟨x0, x1, x2, x3, x4⟩ := x
          simp only at q0 q1 q2 q3 q4 l4 HSUB
          go_wp2_with (fail)
          refine HSUB.out.mono ?_
          rintro e w3 ⟨A5, c5, rfl, hc5, hF, hb3⟩
          have hb4 := bel_trans (bel_alloc (Below.refl wr.heap.size wr) (.cells #[.int .i64 x0, .string x1, .string x2, .int .i64 x3, .slice A4 x4.length c4] 29)) hb3
          have hrow := HROW.out.step (fun b hlt => hb4.block b hlt)
          obtain ⟨A6, c6, p0, p1, p2, p3, p4, _, _⟩ := hrow.get k _ HXX.out
          have f0' := hrow.free (k * 5)
          have f1' := hrow.free (k * 5 + 1)
          have f2' := hrow.free (k * 5 + 2)
          have f3' := hrow.free (k * 5 + 3)
          have f4' := hrow.free (k * 5 + 4)
          have hFK : Kd.FK kTy w3 (fun b => b ≠ g ∧ w.heap.size + 2 ≤ b) (⟨x0, x1, x2, x3, x4⟩ : Ty) [.int .i64 x0, .string x1, .string x2, .int .i64 x3, .slice A5 x4.length c5] := by
            intro W' hW
            refine k29_mk W' ⟨x0, x1, x2, x3, x4⟩ hc5 (hF W' (fun b hb hlt => hW b ?_ hlt))
            have h1 := HGL.out
            have h2 := HG.out
            simp only [World.alloc, Array.size_push] at hb
            omega
          have HPUT := Lib.hid (hrow.put hlt _ HXX.out _ _ _ _ _ hFK)
          have HB4 := Lib.hid (bel_trans HB.out hb4)
          have HN4 := Lib.hid (blk_later hb4 HN.out)
          have HR4 := Lib.hid (blk_later hb4 HR.out)
          simp only at p0 p1 p2 p3 p4
          clear hb3 hb4 hrow hFK hF HSUB HROW HB HN HR q0 q1 q2 q3 q4
          go_wp2_with (fail)
          go_roundw
          case rel =>
            have h2 := HG.out
            refine ⟨k + 1, HLT.out, by go_num, HPUT, Lib.hid ?_, Lib.hid ?_, Lib.hid ?_⟩
            · iterate 5 refine Below.setCell ?_ (by simp only; omega) _
              exact HB4.out
            · rw [blk_far _ _ _ _ _ (by omega), blk_far _ _ _ _ _ (by omega), blk_far _ _ _ _ _ (by omega), blk_far _ _ _ _ _ (by omega), blk_far _ _ _ _ _ (by omega)]
              exact HN4.out
            · rw [blk_far _ _ _ _ _ (by omega), blk_far _ _ _ _ _ (by omega), blk_far _ _ _ _ _ (by omega), blk_far _ _ _ _ _ (by omega), blk_far _ _ _ _ _ (by omega)]
              exact HR4.out
          case measure =>
            have := HLT.out
            simp [intOf]
            omega
        · obtain rfl : k = l.length := by omega
          have q0 : wr.cell? ⟨w.heap.size, 0, none⟩ = some (.int .i64 f0) := (blk_cell HN.out 0).trans rfl
          have q1 : wr.cell? ⟨w.heap.size, 1, none⟩ = some (.string f1) := (blk_cell HN.out 1).trans rfl
          have q2 : wr.cell? ⟨w.heap.size, 2, none⟩ = some (.string f2) := (blk_cell HN.out 2).trans rfl
          have q3 : wr.cell? ⟨w.heap.size, 3, none⟩ = some (.int .i64 f3) := (blk_cell HN.out 3).trans rfl
          have q4 : wr.cell? ⟨w.heap.size, 4, none⟩ = some (.slice A l.length c) := (blk_cell HN.out 4).trans rfl
          have fr4 := blk_free HN.out 4
          have r0 : wr.cell? ⟨w.heap.size + 1, 0, none⟩ = some (.int .i64 0) := (blk_cell HR.out 0).trans rfl
          have r1 : wr.cell? ⟨w.heap.size + 1, 1, none⟩ = some (.string ⟨#[]⟩) := (blk_cell HR.out 1).trans rfl
          have r2 : wr.cell? ⟨w.heap.size + 1, 2, none⟩ = some (.string ⟨#[]⟩) := (blk_cell HR.out 2).trans rfl
          have r3 : wr.cell? ⟨w.heap.size + 1, 3, none⟩ = some (.int .i64 0) := (blk_cell HR.out 3).trans rfl
          have r4 : wr.cell? ⟨w.heap.size + 1, 4, none⟩ = some (.slice none 0 0) := (blk_cell HR.out 4).trans rfl
          have g0 := blk_free HR.out 0
          have g1 := blk_free HR.out 1
          have g2 := blk_free HR.out 2
          have g3 := blk_free HR.out 3
          have g4 := blk_free HR.out 4
          have HC5 := Lib.hid hc'
          clear HN1 HR1 HB1
          go_wp2_with (fail)
          refine subst_end HR.out rfl rfl ?_
          refine ⟨_, _, rfl, HC5.out, ?_, ?_⟩
          · refine Kd.F_mono (Kd.F_step (TyRow.F HROW.out HG.out (by have := HLEN.out; omega)) (fun b hb _ => six_far _ _ _ _ _ _ _ _ b (by omega) (by omega))) (fun b hb => by omega)
          · iterate 6 refine Below.setCell ?_ (by simp only; omega) _
            exact HB.out
    · have hl0 : l = [] := List.eq_nil_of_length_eq_zero (by omega)
      subst hl0
      have hv : ∃ A' c', v = .slice A' 0 c' := by
        rcases HCL.out.1 with ⟨_, rfl, _⟩ | ⟨css, _, _, _, hown⟩
        · exact ⟨none, 0, rfl⟩
        · obtain ⟨A', c', rfl, _⟩ := own_slice hown
          exact ⟨A', c', rfl⟩
      obtain ⟨A', c', rfl⟩ := hv
      have q0 : w1.cell? ⟨w.heap.size, 0, none⟩ = some (.int .i64 f0) := (blk_cell HN1.out 0).trans rfl
      have q1 : w1.cell? ⟨w.heap.size, 1, none⟩ = some (.string f1) := (blk_cell HN1.out 1).trans rfl
      have q2 : w1.cell? ⟨w.heap.size, 2, none⟩ = some (.string f2) := (blk_cell HN1.out 2).trans rfl
      have q3 : w1.cell? ⟨w.heap.size, 3, none⟩ = some (.int .i64 f3) := (blk_cell HN1.out 3).trans rfl
      have q4 : w1.cell? ⟨w.heap.size, 4, none⟩ = some (.slice A 0 c) := (blk_cell HN1.out 4).trans rfl
      have fr4 := blk_free HN1.out 4
      have r0 : w1.cell? ⟨w.heap.size + 1, 0, none⟩ = some (.int .i64 0) := (blk_cell HR1.out 0).trans rfl
      have r1 : w1.cell? ⟨w.heap.size + 1, 1, none⟩ = some (.string ⟨#[]⟩) := (blk_cell HR1.out 1).trans rfl
      have r2 : w1.cell? ⟨w.heap.size + 1, 2, none⟩ = some (.string ⟨#[]⟩) := (blk_cell HR1.out 2).trans rfl
      have r3 : w1.cell? ⟨w.heap.size + 1, 3, none⟩ = some (.int .i64 0) := (blk_cell HR1.out 3).trans rfl
      have r4 : w1.cell? ⟨w.heap.size + 1, 4, none⟩ = some (.slice none 0 0) := (blk_cell HR1.out 4).trans rfl
      have g0 := blk_free HR1.out 0
      have g1 := blk_free HR1.out 1
      have g2 := blk_free HR1.out 2
      have g3 := blk_free HR1.out 3
      have g4 := blk_free HR1.out 4
      clear HCL
      go_wp2_with (fail)
      go_loopw [34] (fun iv wr => iv = .int .i64 0 ∧ wr = w1) (fun _ _ => 0)
      case atStart => exact ⟨rfl, rfl⟩
      case round =>
        obtain ⟨rfl, rfl⟩ := hrel
        go_wp2_with (fail)
        refine subst_end HR1.out rfl rfl ?_
        refine ⟨A', c', rfl, Nat.zero_le _, ?_, ?_⟩
        · intro W' _
          exact ⟨rfl, by simp, fun h => absurd h (by simp)⟩
        · iterate 6 refine Below.setCell ?_ (by simp only; omega) _
          exact HB1.out
end Go.Proofs.Ytbhagjhhgmmcgaa
