/- The walk of the document's Call. -/
import Derived.Test.YtbhagjhhgmmcgaaTyUI
import Derived.Deep.CutRange
import Derived.Deep.CutBlock
import Derived.Deep.RegionHeld3
import Derived.Test.YtbhagjhhgmmcgaaTyRE
namespace Go.Proofs.Ytbhagjhhgmmcgaa
open Go.RowKit PRef Go.Proofs.YtbhagjhhgmmcgaaW.PrintWords Go.Shelf
set_option linter.unusedVariables false
set_option linter.unusedSimpArgs false

/-- Where the call stands between its parts: its boxes, what is wrong so far. -/
structure DSt (w : World) (sc fn : Array Value) (g : Nat) (AT : Option Addr) (ts : List Ty) (l : List Wr) (v : Value) (W : World) : Prop where
  sc : W.heap[w.heap.size]? = some (.cells sc 27 (0, 0))
  fn : W.heap[w.heap.size + 1]? = some (.cells fn 58 (0, 0))
  rs : W.heap[w.heap.size + 1 + 1]? = some (.cells #[.int .i64 0, .string ⟨#[]⟩, .string ⟨#[]⟩, .int .i64 0, .slice none 0 0] 29 (0, 0))
  ft : Kd.F kTy W (fun b => b < w.heap.size ∨ (w.heap.size + 3 ≤ b ∧ b < g)) AT ts.length ts
  ow : Wrs W g v l
  bel : Below w.heap.size w W
  lo : w.heap.size + 3 ≤ g
  hi : g ≤ W.heap.size
theorem DSt.below {w : World} {sc fn : Array Value} {g : Nat} {AT : Option Addr} {ts : List Ty} {l : List Wr} {v : Value} {W W' : World} (h : DSt w sc fn g AT ts l v W) (hb : Below W.heap.size W W') : DSt w sc fn g AT ts l v W' :=
  ⟨blk_later hb h.sc, blk_later hb h.fn, blk_later hb h.rs, Kd.F_below h.ft hb, h.ow.below hb, h.bel.trans (hb.mono h.bel.size), h.lo, Nat.le_trans h.hi hb.size⟩
theorem DSt.grown {w : World} {sc fn : Array Value} {g : Nat} {AT : Option Addr} {ts : List Ty} {l l' : List Wr} {v v' : Value} {W W' : World} (h : DSt w sc fn g AT ts l v W) (hg : W.grownBy W' v.ownBlock) (ho : Wrs W' g v' l') : DSt w sc fn g AT ts l' v' W' := by
  have lo := h.lo
  have hi := h.hi
  refine ⟨h.ow.boxed hg h.sc (by omega), h.ow.boxed hg h.fn (by omega), h.ow.boxed hg h.rs (by omega), Kd.F_grown h.ft hg (fun k hk e => ?_), ho, h.ow.bel hg h.bel (by omega) (by omega), lo, Nat.le_trans hi hg.size⟩
  have := own_base h.ow k e.symm
  omega
/-- At the append of one more. -/
theorem DSt.append {w : World} {sc fn : Array Value} {g : Nat} {AT : Option Addr} {ts : List Ty} {l : List Wr} {v : Value} {W : World} {ops : Array Oper} {rest : List Oper} {o : Oper} {act : Act} {Q : Exit → Act → World → Prop} (hgd : o.guard = none) (s x : Operand)
    (ho : o.op = .call { callee := .builtin .append, args := #[s, x], argTypes := #[60, 60] }) (h : DSt w sc fn g AT ts l v W) (p : Wr) (hl : l.length ≤ 5000) (N : Nat) (hN : W.heap.size = N) (hs : act.eval s = v) (hx : act.eval x = .slice (some ⟨N, 0, none⟩) 1 1)
    (hk : ∀ gg cap w', Hid (DSt w sc fn g AT ts (l ++ [p]) (.slice (some ⟨gg, 0, none⟩) (l.length + 1) cap) w') → wpList Try.prog ops Q rest (act.put o.dst (.slice (some ⟨gg, 0, none⟩) (l.length + 1) cap)) w') :
    wpList Try.prog ops Q (o :: rest) act (W.alloc (.cells #[.int .i64 p.1, .int .i64 p.2] 66)) := by
  obtain ⟨i0, hi, hz0, hz1, hz2⟩ := info_parts infoWr
  have h2 := h.below (bel_alloc (Below.refl W.heap.size W) (.cells #[.int .i64 p.1, .int .i64 p.2] 66))
  subst hN
  refine wpList_append_lies _ hgd s x 60 ho g 66 i0 _ 2 16 Try.underlying60 hi hz0 hz1 hz2 rfl (by decide) v l.length (l.flatMap wrC) hs h2.ow ⟨W.heap.size, 0, none⟩ 1 1 (wrC p) hx rfl (wr_news W p) (by intro u hu; simp [wrC] at hu; rcases hu with rfl | rfl <;> rfl) (by decide) (by unfold maxLen; omega) (by omega) h2.hi _ rfl ?_
  intro gg cap w' hown hgrow _ _
  exact hk gg cap w' (Lib.hid (h2.grown hgrow (Wrs.app p rfl hown)))

theorem dfin_cells {w W5 : World} {sc fn : Array Value} {g : Nat} {AT : Option Addr} {ts : List Ty} {l : List Wr} {v : Value} (h : DSt w sc fn g AT ts l v W5) : W5.cell? ⟨w.heap.size + 1 + 1, 0, none⟩ = some (.int .i64 0) ∧ W5.cell? ⟨w.heap.size + 1 + 1, 1, none⟩ = some (.string ⟨#[]⟩) ∧ W5.cell? ⟨w.heap.size + 1 + 1, 2, none⟩ = some (.string ⟨#[]⟩) ∧ W5.cell? ⟨w.heap.size + 1 + 1, 3, none⟩ = some (.int .i64 0) ∧ W5.cell? ⟨w.heap.size + 1 + 1, 4, none⟩ = some (.slice none 0 0) ∧
    W5.frozen? ⟨w.heap.size + 1 + 1, 0, none⟩ = false ∧ W5.frozen? ⟨w.heap.size + 1 + 1, 1, none⟩ = false ∧ W5.frozen? ⟨w.heap.size + 1 + 1, 2, none⟩ = false ∧ W5.frozen? ⟨w.heap.size + 1 + 1, 3, none⟩ = false ∧ W5.frozen? ⟨w.heap.size + 1 + 1, 4, none⟩ = false :=
  ⟨cell_at h.rs 0 _ rfl, cell_at h.rs 1 _ rfl, cell_at h.rs 2 _ rfl, cell_at h.rs 3 _ rfl, cell_at h.rs 4 _ rfl, blk_free h.rs 0, blk_free h.rs 1, blk_free h.rs 2, blk_free h.rs 3, blk_free h.rs 4⟩
theorem dcall_fin {w W5 : World} {sc fn : Array Value} {g : Nat} {AT : Option Addr} {ts : List Ty} {l : List Wr} {v : Value} (h : DSt w sc fn g AT ts l v W5) (TT : Ty) (A5 : Option Addr) (c5 : Nat) {N : Nat} (hF : Kd.F kTy W5 (fun b => (b < w.heap.size ∨ (w.heap.size + 3 ≤ b ∧ b < g)) ∨ N ≤ b) A5 TT.f4.length TT.f4) (hN : g ≤ N) :
    (((((W5.setCell ⟨w.heap.size + 1 + 1, 0, none⟩ (.int .i64 TT.f0)).setCell ⟨w.heap.size + 1 + 1, 1, none⟩ (.string TT.f1)).setCell ⟨w.heap.size + 1 + 1, 2, none⟩ (.string TT.f2)).setCell ⟨w.heap.size + 1 + 1, 3, none⟩ (.int .i64 TT.f3)).setCell ⟨w.heap.size + 1 + 1, 4, none⟩ (.slice A5 TT.f4.length c5)).heap[w.heap.size + 1 + 1]? = some (.cells #[.int .i64 TT.f0, .string TT.f1, .string TT.f2, .int .i64 TT.f3, .slice A5 TT.f4.length c5] 29 (0, 0)) ∧ Kd.C kTy (((((W5.setCell ⟨w.heap.size + 1 + 1, 0, none⟩ (.int .i64 TT.f0)).setCell ⟨w.heap.size + 1 + 1, 1, none⟩ (.string TT.f1)).setCell ⟨w.heap.size + 1 + 1, 2, none⟩ (.string TT.f2)).setCell ⟨w.heap.size + 1 + 1, 3, none⟩ (.int .i64 TT.f3)).setCell ⟨w.heap.size + 1 + 1, 4, none⟩ (.slice A5 TT.f4.length c5)) A5 TT.f4.length TT.f4 ∧ Wrs (((((W5.setCell ⟨w.heap.size + 1 + 1, 0, none⟩ (.int .i64 TT.f0)).setCell ⟨w.heap.size + 1 + 1, 1, none⟩ (.string TT.f1)).setCell ⟨w.heap.size + 1 + 1, 2, none⟩ (.string TT.f2)).setCell ⟨w.heap.size + 1 + 1, 3, none⟩ (.int .i64 TT.f3)).setCell ⟨w.heap.size + 1 + 1, 4, none⟩ (.slice A5 TT.f4.length c5)) w.heap.size v l ∧ Below w.heap.size w (((((W5.setCell ⟨w.heap.size + 1 + 1, 0, none⟩ (.int .i64 TT.f0)).setCell ⟨w.heap.size + 1 + 1, 1, none⟩ (.string TT.f1)).setCell ⟨w.heap.size + 1 + 1, 2, none⟩ (.string TT.f2)).setCell ⟨w.heap.size + 1 + 1, 3, none⟩ (.int .i64 TT.f3)).setCell ⟨w.heap.size + 1 + 1, 4, none⟩ (.slice A5 TT.f4.length c5)) := by
  have lo := h.lo
  have hfar := chain_far W5 (w.heap.size + 1 + 1) TT A5 c5
  refine ⟨(blk_set (blk_set (blk_set (blk_set (blk_set h.rs 0 (.int .i64 TT.f0)) 1 (.string TT.f1)) 2 (.string TT.f2)) 3 (.int .i64 TT.f3)) 4 (.slice A5 TT.f4.length c5)).trans rfl, Kd.F_now (Kd.F_step hF (fun b hb _ => hfar b (by omega))), ?_, ?_⟩
  · refine Wrs.lower (own_kept h.ow (fun k hk => hfar k ?_)) (by omega)
    have hk2 := own_base h.ow k hk
    omega
  · iterate 5 refine Below.setCell ?_ (by simp only; omega) _
    exact h.bel

set_option maxRecDepth 100000 in
set_option maxHeartbeats 8000000 in
theorem ref_call_any (a : ScA) (W : List Ifc) (B : List Ty) (f : Fun) (b : FnA) (args : List Ty) (AA : Option Addr) (ca : Nat) (w : World) (hW : ScC a W B w) (ok : WOk W) (hF : FnC b f w) (hA : Kd.C kTy w AA args.length args) (lA : args.length ≤ ca)
    (hp : ∀ x ∈ f.f2, TyOk x) (hr : TyOk f.f3) (hn : f.f2.length ≤ 1000) :
    Calls Try.prog 44 #[.agg (scCs a W B), .agg (fnCs b f), .slice AA args.length ca] w fun e w' => ∃ A' c' v, e = .returned (.tuple #[tyV (callT f args) A' c', v]) ∧ (callT f args).f4.length ≤ c' ∧ Kd.C kTy w' A' (callT f args).f4.length (callT f args).f4 ∧ Wrs w' w.heap.size v (callL W B f args) ∧ Below w.heap.size w w' := by
  obtain ⟨i0, hi, hz0, hz1, hz2⟩ := info_parts infoWr
  have hb3 : Below w.heap.size w (((w.alloc (.cells (scCs a W B) 27)).alloc (.cells (fnCs b f) 58)).alloc (.cells #[.int .i64 0, .string ⟨#[]⟩, .string ⟨#[]⟩, .int .i64 0, .slice none 0 0] 29)) := bel_alloc (bel_alloc (bel_alloc (Below.refl _ _) _) _) _
  have HUN := Lib.hid (ref_unify_any f.f2 args (f.f1.length : Int) b.A2 AA b.c2 ca w (((w.alloc (.cells (scCs a W B) 27)).alloc (.cells (fnCs b f) 58)).alloc (.cells #[.int .i64 0, .string ⟨#[]⟩, .string ⟨#[]⟩, .int .i64 0, .slice none 0 0] 29)) hF.p_ hF.pc hA lA hb3)
  have g0 : (((w.alloc (.cells (scCs a W B) 27)).alloc (.cells (fnCs b f) 58)).alloc (.cells #[.int .i64 0, .string ⟨#[]⟩, .string ⟨#[]⟩, .int .i64 0, .slice none 0 0] 29)).heap[w.heap.size]? = some (.cells (scCs a W B) 27 (0, 0)) := blk_alloc (blk_alloc (blk_new w _) _) _
  have g1 : (((w.alloc (.cells (scCs a W B) 27)).alloc (.cells (fnCs b f) 58)).alloc (.cells #[.int .i64 0, .string ⟨#[]⟩, .string ⟨#[]⟩, .int .i64 0, .slice none 0 0] 29)).heap[w.heap.size + 1]? = some (.cells (fnCs b f) 58 (0, 0)) := blk_alloc (by simpa using blk_new (w.alloc (.cells (scCs a W B) 27)) (.cells (fnCs b f) 58)) _
  have g2 : (((w.alloc (.cells (scCs a W B) 27)).alloc (.cells (fnCs b f) 58)).alloc (.cells #[.int .i64 0, .string ⟨#[]⟩, .string ⟨#[]⟩, .int .i64 0, .slice none 0 0] 29)).heap[w.heap.size + 1 + 1]? = some (.cells #[.int .i64 0, .string ⟨#[]⟩, .string ⟨#[]⟩, .int .i64 0, .slice none 0 0] 29 (0, 0)) := by simpa using blk_new ((w.alloc (.cells (scCs a W B) 27)).alloc (.cells (fnCs b f) 58)) (.cells #[.int .i64 0, .string ⟨#[]⟩, .string ⟨#[]⟩, .int .i64 0, .slice none 0 0] 29)
  have hsz : (((w.alloc (.cells (scCs a W B) 27)).alloc (.cells (fnCs b f) 58)).alloc (.cells #[.int .i64 0, .string ⟨#[]⟩, .string ⟨#[]⟩, .int .i64 0, .slice none 0 0] 29)).heap.size = w.heap.size + 3 := by simp
  have HG0 := Lib.hid g0
  have HG1 := Lib.hid g1
  have HG2 := Lib.hid g2
  have HSZ := Lib.hid hsz
  have HB3 := Lib.hid hb3
  have HUL := Lib.hid (unifyN_len f.f2 args f.f1.length)
  have HFW := Lib.hid hF
  have HWW := Lib.hid hW
  have HAW := Lib.hid hA
  have HPP := Lib.hid (And.intro hp (And.intro hr ok))
  have HLL : Hid (callL W B f args = callA args.length f.f2.length ++ callB W B (unifyN f.f2 args f.f1.length) f.f1 (unifyN f.f2 args f.f1.length).length ++ callP W B (unifyN f.f2 args f.f1.length) f.f2 args (min f.f2.length args.length)) := Lib.hid rfl
  have HTT : Hid (callT f args = substT (unifyN f.f2 args f.f1.length) f.f3) := Lib.hid rfl
  generalize callL W B f args = LL at *
  generalize callT f args = TT at *
  generalize unifyN f.f2 args f.f1.length = ts at *
  have hpm : f.f2.length ≤ 9223372036854775807 := by omega
  have ham : args.length ≤ 9223372036854775807 := hA.2.1
  have hbm : f.f1.length ≤ 9223372036854775807 := hF.b_.2.1
  clear g0 g1 g2 hsz hb3 hF hW hA hp hr ok
  simp only [scCs, fnCs] at *
  have hcs : (((args.length : Int) != (f.f2.length : Int)) = false ∧ callA args.length f.f2.length = []) ∨ (((args.length : Int) != (f.f2.length : Int)) = true ∧ callA args.length f.f2.length = [(-1, 12)]) := by
    by_cases hne : args.length = f.f2.length
    · exact .inl ⟨by simp [hne], by unfold callA; rw [if_pos hne]⟩
    · refine .inr ⟨?_, by unfold callA; rw [if_neg hne]⟩
      simp only [bne_iff_ne, ne_eq]
      omega
  have HLA := Lib.hid (callA_len args.length f.f2.length)
  generalize callA args.length f.f2.length = LA at *
  go_enter Try.func44, Try.ntmps44
  go_upto_if 27 with (go_at_call 40; refine HUN.out.mono ?_; rintro e w1 ⟨AT, cT, rfl, hcT, hCT, hbT⟩; have hb6 := bel_trans HB3.out hbT; have HST : Hid (DSt w (scCs a W B) (fnCs b f) w1.heap.size AT ts [] (.slice none 0 0) w1) := Lib.hid ⟨blk_later hbT HG0.out, blk_later hbT HG1.out, blk_later hbT HG2.out, Kd.F_mono (Kd.F_bound hCT) (fun b hb => by have := HSZ.out; have h2 := hb.2; rcases hb.1 with h | h; exact .inl h; exact .inr ⟨by omega, h2⟩), Wrs.nil _ _, hb6, by have := hbT.size; have := HSZ.out; omega, Nat.le_refl _⟩; have HCT := Lib.hid hcT; obtain ⟨_, n1, _, _, _, _, _⟩ := fn_cells HST.out.fn; clear hbT hb6 hCT hcT HUN)
  go_cut [9] from 15 (fun s wx => Hid (DSt w (scCs a W B) (fnCs b f) w1.heap.size AT ts LA s wx))
  case first =>
    rcases hcs with ⟨z1, z2⟩ | ⟨z1, z2⟩
    · go_wp2
      go_meet
      case rel => exact Lib.hid (by rw [z2]; exact HST.out)
    · go_wp2_with (at_builtin; refine DSt.append rfl _ _ rfl HST.out (-1, 12) (by simp) w1.heap.size rfl rfl rfl ?_; intro gg cap w9 HST9)
      go_meet
      case rel => exact Lib.hid (by rw [z2]; exact HST9.out)
  case rest =>
    have HST0 := hcut
    clear hcut hcs n1 HST HG0 HG1 HG2 HSZ HB3
    generalize w1.heap.size = g at *
    have HL1 : Hid ((LA ++ callB W B ts f.f1 ts.length).length ≤ 20) := Lib.hid (by have h1 := callB_len W B ts f.f1 ts.length; have h2 := HLA.out; have h3 := HUL.out; rw [List.length_append]; omega)
    go_upto_block 0 with (fail)
    go_cut [9] from 15 (fun s wx => Hid (DSt w (scCs a W B) (fnCs b f) g AT ts (LA ++ callB W B ts f.f1 ts.length) s wx))
    case first =>
      go_wp2_with (fail)
      go_loopw [9, 10] (fun vv iv wr => ∃ (k : Nat), iv = .int .i64 k ∧ Hid (k ≤ ts.length) ∧ Hid (DSt w (scCs a W B) (fnCs b f) g AT ts (LA ++ callB W B ts f.f1 k) vv wr)) (fun _ iv _ => ts.length - (intOf iv).toNat)
      case atStart => exact ⟨0, rfl, Lib.hid (Nat.zero_le _), Lib.hid (by simpa [callB] using HST0.out)⟩
      case round =>
        clear HST0
        obtain ⟨k, rfl, HK, HST⟩ := hrel
        obtain ⟨m1, m2, _, _, _, _, _⟩ := fn_cells HST.out.fn
        by_cases hlt : k < ts.length
        · obtain ⟨ax, X4, e4, hAx, x0, x1, x2, x3, x4, lx, gx⟩ := at_T29 (Kd.F_now HST.out.ft) (k : Int) (by omega) (by omega)
          obtain ⟨ay, Y4, f4, hAy, y0, y1, y2, y3, y4, ly, gy⟩ := at_T29 HFW.out.b_ (k : Int) (by omega) (by have := HUL.out; omega)
          have hsu := callB_succ W B ts f.f1 k
          rw [rd_getD] at x0 x1 x2 x3 x4 lx gx y0 y1 y2 y3 y4 ly gy
          rw [Int.toNat_natCast] at x0 x1 x2 x3 x4 y0 y1 y2 y3 y4
          generalize ts.getD k zTy = x at *
          generalize f.f1.getD k zTy = y at *
          have hbw := HST.out.bel
          subst hAx
          replace y0 := cell_later hbw y0
          replace y1 := cell_later hbw y1
          replace y2 := cell_later hbw y2
          replace y3 := cell_later hbw y3
          replace y4 := cell_later hbw y4
          rw [hAy] at m1
          obtain ⟨s0, s1, s2, s3, s4⟩ := sc_cells HST.out.sc
          have HME := Lib.hid (ref_meets_any a W B x y X4 Y4 e4 f4 wr.drew (HWW.out.later (bel_drew hbw)) HPP.out.2.2 (Kd.C_below gx (bel_drew (Below.refl _ _))) lx (Kd.C_below gy (bel_drew hbw)) ly)
          simp only [scV, tyV] at HME
          have HLE : Hid ((LA ++ callB W B ts f.f1 k).length ≤ 5000) := Lib.hid (by have h1 := callB_len W B ts f.f1 k; have h2 := HLA.out; have h3 := HUL.out; rw [List.length_append]; omega)
          have HGOOD : Hid (boundBad W B x y = false → LA ++ callB W B ts f.f1 (k + 1) = LA ++ callB W B ts f.f1 k) := Lib.hid (fun h => by rw [hsu, h]; simp)
          have HBAD : Hid (boundBad W B x y = true → LA ++ callB W B ts f.f1 (k + 1) = (LA ++ callB W B ts f.f1 k) ++ [(-1, 15)]) := Lib.hid (fun h => by rw [hsu, h]; simp)
          have hbb : boundBad W B x y = (x.f0 == 0 || (y.f0 != 0 && !meetsP W B x y)) := rfl
          have i0 : 0 ≤ (k : Int) := by omega
          have i1 : (k : Int) < ts.length := by omega
          have i2 : (k : Int) < f.f1.length := by have := HUL.out; omega
          have HLT := Lib.hid hlt
          have hkb : k + 1 ≤ 9223372036854775807 := by have := HUL.out; omega
          have hcs : ((x.f0 == 0) = true ∧ boundBad W B x y = true) ∨ ((x.f0 == 0) = false ∧ (y.f0 != 0) = false ∧ boundBad W B x y = false) ∨ ((x.f0 == 0) = false ∧ (y.f0 != 0) = true ∧ meetsP W B x y = true ∧ boundBad W B x y = false) ∨ ((x.f0 == 0) = false ∧ (y.f0 != 0) = true ∧ meetsP W B x y = false ∧ boundBad W B x y = true) := by
            rw [hbb]
            cases (x.f0 == 0) <;> cases (y.f0 != 0) <;> cases meetsP W B x y <;> simp
          generalize LA ++ callB W B ts f.f1 k = L0 at *
          generalize boundBad W B x y = bad at *
          generalize meetsP W B x y = me at *
          clear hbb hsu gx lx gy ly hbw hAy
          rcases hcs with ⟨c1, rfl⟩ | ⟨c1, c2, rfl⟩ | ⟨c1, c2, rfl, rfl⟩ | ⟨c1, c2, rfl, rfl⟩
          · go_wp2_with (at_builtin; refine DSt.append rfl _ _ rfl HST.out (-1, 15) HLE.out _ rfl rfl rfl ?_; intro gg cap w9 HST9)
            go_roundw
            case rel => exact ⟨k + 1, by go_num, Lib.hid HLT.out, Lib.hid (by rw [HBAD.out (by first | rfl | trivial)]; exact HST9.out)⟩
            case measure => have := HLT.out; simp [intOf]; omega
          · go_wp2
            go_roundw
            case rel => exact ⟨k + 1, by go_num, Lib.hid HLT.out, Lib.hid (by rw [HGOOD.out (by first | rfl | trivial)]; exact HST.out)⟩
            case measure => have := HLT.out; simp [intOf]; omega
          all_goals
            go_wp2_with (fail)
            go_still_tail 10, (by kernel_rfl)
            change wpList _ _ _ _ _ wr.drew
            go_wp2_with (fail)
            refine HME.out.mono ?_
            rintro e w6 ⟨rfl, hb6⟩
            have HST6 := Lib.hid (HST.out.below (bel_trans (bel_drew (Below.refl wr.heap.size wr)) hb6))
            clear hb6 HST HME x0 x1 x2 x3 x4 y0 y1 y2 y3 y4 s0 s1 s2 s3 s4 m1 m2
          · go_wp2_with (fail)
            go_roundw
            case rel => exact ⟨k + 1, by go_num, Lib.hid HLT.out, Lib.hid (by rw [HGOOD.out (by first | rfl | trivial)]; exact HST6.out)⟩
            case measure => have := HLT.out; simp [intOf]; omega
          · go_wp2_with (at_builtin; refine DSt.append rfl _ _ rfl HST6.out (-1, 15) HLE.out _ rfl rfl rfl ?_; intro gg cap w9 HST9)
            go_roundw
            case rel => exact ⟨k + 1, by go_num, Lib.hid HLT.out, Lib.hid (by rw [HBAD.out (by first | rfl | trivial)]; exact HST9.out)⟩
            case measure => have := HLT.out; simp [intOf]; omega
        · obtain rfl : k = ts.length := by have := HK.out; omega
          have i1 : ¬ ((ts.length : Int) < (ts.length : Int)) := by omega
          have hul : (ts.length : Int) < f.f1.length ∨ (ts.length : Int) = f.f1.length := by have := HUL.out; omega
          have hulc : (ts.length < f.f1.length ∧ (ts.length : Int) < f.f1.length) ∨ (¬ ts.length < f.f1.length ∧ ¬ (ts.length : Int) < f.f1.length) := by omega
          rcases hulc with ⟨i2, i3⟩ | ⟨i2, i3⟩
          all_goals
            go_wp2_with (fail)
            go_meet
            case rel => exact HST
    case rest =>
    have HST := hcut
    clear HST0 hcut
    generalize LA ++ callB W B ts f.f1 ts.length = L1 at *
    go_upto_block 2 with (fail)
    go_cut [9] from 15 (fun s wx => Hid (DSt w (scCs a W B) (fnCs b f) g AT ts LL s wx))
    case first =>
      go_wp2_with (fail)
      go_loopw [9, 13] (fun vv iv wx => ∃ k : Nat, iv = .int .i64 k ∧ Hid (k ≤ min f.f2.length args.length) ∧ Hid (DSt w (scCs a W B) (fnCs b f) g AT ts (L1 ++ callP W B ts f.f2 args k) vv wx)) (fun _ iv _ => args.length - (intOf iv).toNat)
      case atStart => exact ⟨0, rfl, Lib.hid (Nat.zero_le _), Lib.hid (by simpa [callP] using HST.out)⟩
      case round =>
        clear HST
        obtain ⟨k, rfl, HK, HST⟩ := hrel
        obtain ⟨_, m2, m3, m4, m5, m6, m7⟩ := fn_cells HST.out.fn
        by_cases hlt : k < args.length
        · by_cases hlt2 : k < f.f2.length
          · obtain ⟨ax, X4, e4, hAx, x0, x1, x2, x3, x4, lx, gx⟩ := at_T29 HAW.out (k : Int) (by omega) (by omega)
            obtain ⟨ay, Y4, f4, hAy, y0, y1, y2, y3, y4, ly, gy⟩ := at_T29 HFW.out.p_ (k : Int) (by omega) (by omega)
            have hsu := callP_succ W B ts f.f2 args k
            have hpk : TyOk (f.f2.getD k zTy) := by
              rw [List.getD_eq_getElem?_getD, List.getElem?_eq_getElem hlt2]
              exact HPP.out.1 _ (List.getElem_mem _)
            rw [rd_getD] at x0 x1 x2 x3 x4 lx gx y0 y1 y2 y3 y4 ly gy
            rw [Int.toNat_natCast] at x0 x1 x2 x3 x4 y0 y1 y2 y3 y4
            have hbw := HST.out.bel
            have HAS := Lib.hid (fun (A5 : Option Addr) (c5 : Nat) (w5 : World) (hb5 : Below wr.heap.size wr w5) (h5 : Kd.C kTy w5 A5 (substT ts (f.f2.getD k zTy)).f4.length (substT ts (f.f2.getD k zTy)).f4) (l5 : (substT ts (f.f2.getD k zTy)).f4.length ≤ c5) => (ref_assign_any a W B (args.getD k zTy) (substT ts (f.f2.getD k zTy)) X4 A5 e4 c5 w5 (HWW.out.later (bel_trans hbw hb5)) HPP.out.2.2 (Kd.C_below gx (bel_trans hbw hb5)) lx h5 l5).mono (fun e w' h => (⟨h.1, bel_trans hb5 h.2⟩ : e = .returned (.bool (assignP W B (args.getD k zTy) (substT ts (f.f2.getD k zTy)))) ∧ Below wr.heap.size wr w')))
            generalize args.getD k zTy = x at *
            generalize f.f2.getD k zTy = y at *
            subst hAx
            replace x0 := cell_later hbw x0
            replace x1 := cell_later hbw x1
            replace x2 := cell_later hbw x2
            replace x3 := cell_later hbw x3
            replace x4 := cell_later hbw x4
            replace y0 := cell_later hbw y0
            replace y1 := cell_later hbw y1
            replace y2 := cell_later hbw y2
            replace y3 := cell_later hbw y3
            replace y4 := cell_later hbw y4
            rw [hAy] at m2
            obtain ⟨s0, s1, s2, s3, s4⟩ := sc_cells HST.out.sc
            have HSU := Lib.hid (fun (Wx : World) (hb : Below wr.heap.size wr Wx) => (ref_subst_any ts AT cT Wx (fun b => b < Wx.heap.size) (fun b hb => hb) (Kd.C_F heap_ty (Kd.C_below (Kd.F_now HST.out.ft) hb)) HCT.out hpk Y4 f4 Wx (Below.refl _ _) (Kd.C_below gy (bel_trans hbw hb)) ly).mono (fun e w' h => (by obtain ⟨A', c', h1, h2, h3, h4⟩ := h; exact ⟨A', c', h1, h2, Kd.F_now h3, bel_trans hb h4⟩ : ∃ A' c', e = .returned (tyV (substT ts y) A' c') ∧ (substT ts y).f4.length ≤ c' ∧ Kd.C kTy w' A' (substT ts y).f4.length (substT ts y).f4 ∧ Below wr.heap.size wr w')))
            have HCE := Lib.hid (fun (w5 : World) (hb5 : Below wr.heap.size wr w5) => And.intro (And.intro (cell_later hb5 x0) (And.intro (cell_later hb5 x1) (And.intro (cell_later hb5 x2) (And.intro (cell_later hb5 x3) (cell_later hb5 x4))))) (And.intro (And.intro (cell_later hb5 y0) (And.intro (cell_later hb5 y1) (And.intro (cell_later hb5 y2) (And.intro (cell_later hb5 y3) (cell_later hb5 y4))))) (And.intro (cell_later hb5 m2) (sc_cells (blk_later hb5 HST.out.sc)))))
            simp only [tyV, scV] at HSU HAS
            have HLE : Hid ((L1 ++ callP W B ts f.f2 args k).length ≤ 5000) := Lib.hid (by have h1 := callP_len W B ts f.f2 args k; have h2 := HL1.out; rw [List.length_append]; omega)
            have HGOOD : Hid (assignP W B x (substT ts y) = true → L1 ++ callP W B ts f.f2 args (k + 1) = L1 ++ callP W B ts f.f2 args k) := Lib.hid (fun h => by rw [hsu, h]; simp)
            have HBAD : Hid (assignP W B x (substT ts y) = false → L1 ++ callP W B ts f.f2 args (k + 1) = (L1 ++ callP W B ts f.f2 args k) ++ [((k : Int), 11)]) := Lib.hid (fun h => by rw [hsu, h]; simp)
            generalize substT ts y = sp at *
            generalize assignP W B x sp = asg at *
            generalize L1 ++ callP W B ts f.f2 args k = L0 at *
            have j0 : 0 ≤ (k : Int) := by omega
            have j1 : (k : Int) < args.length := by omega
            have j2 : (k : Int) < f.f2.length := by omega
            have HLT := Lib.hid (And.intro hlt hlt2)
            clear hsu gx lx gy ly hbw hAy hpk
            go_wp2_with (fail)
            go_cut [14] from 80 to 112 (fun s wx => s = .bool asg ∧ Hid (Below wr.heap.size wr wx))
            case first =>
              go_region_held3 (fun Wx : World => (Wx.cell? (ax.add (k * 5)) = some (.int .i64 x.f0) ∧ Wx.cell? ⟨(ax.add (k * 5)).block, (ax.add (k * 5)).off + 1, none⟩ = some (.string x.f1) ∧ Wx.cell? ⟨(ax.add (k * 5)).block, (ax.add (k * 5)).off + 2, none⟩ = some (.string x.f2) ∧ Wx.cell? ⟨(ax.add (k * 5)).block, (ax.add (k * 5)).off + 3, none⟩ = some (.int .i64 x.f3) ∧ Wx.cell? ⟨(ax.add (k * 5)).block, (ax.add (k * 5)).off + 4, none⟩ = some (.slice X4 x.f4.length e4)) ∧ (Wx.cell? (ay.add (k * 5)) = some (.int .i64 y.f0) ∧ Wx.cell? ⟨(ay.add (k * 5)).block, (ay.add (k * 5)).off + 1, none⟩ = some (.string y.f1) ∧ Wx.cell? ⟨(ay.add (k * 5)).block, (ay.add (k * 5)).off + 2, none⟩ = some (.string y.f2) ∧ Wx.cell? ⟨(ay.add (k * 5)).block, (ay.add (k * 5)).off + 3, none⟩ = some (.int .i64 y.f3) ∧ Wx.cell? ⟨(ay.add (k * 5)).block, (ay.add (k * 5)).off + 4, none⟩ = some (.slice Y4 y.f4.length f4)) ∧ Wx.cell? ⟨w.heap.size + 1, 2, none⟩ = some (.slice (some ay) f.f2.length b.c2) ∧ (Wx.cell? ⟨w.heap.size, 0, none⟩ = some (.slice a.AW W.length a.cW) ∧ Wx.cell? ⟨w.heap.size, 1, none⟩ = some (.slice a.AI a.nI a.cI) ∧ Wx.cell? ⟨w.heap.size, 2, none⟩ = some (.slice a.AN a.nN a.cN) ∧ Wx.cell? ⟨w.heap.size, 3, none⟩ = some (.slice a.AB B.length a.cB) ∧ Wx.cell? ⟨w.heap.size, 4, none⟩ = some (.slice a.AV a.nV a.cV))) ((refine HCE.out _ ?_; repeat (first | assumption | exact Below.refl _ _ | refine bel_drew ?_ | refine bel_drewN ?_ _))) (first | (go_at_call 70; refine (HSU.out _ (by repeat (first | assumption | exact Below.refl _ _ | refine bel_drew ?_ | refine bel_drewN ?_ _))).mono ?_; rintro e w5 ⟨A5, c5, rfl, l5, F5, hb5⟩) | (go_at_call 32; refine (HAS.out A5 c5 _ (by repeat (first | assumption | exact Below.refl _ _ | refine bel_drew ?_ | refine bel_drewN ?_ _)) F5 l5).mono ?_; rintro e w6 ⟨rfl, hb7⟩))
              all_goals
                try clear hHeld
                go_wp2_with (fail)
                go_meet
                case rel => exact ⟨rfl, Lib.hid hb7⟩
            case rest =>
              obtain ⟨rfl, HBC⟩ := hcut
              have HST3 := Lib.hid (HST.out.below HBC.out)
              clear HST HSU HAS HCE x0 x1 x2 x3 x4 y0 y1 y2 y3 y4 s0 s1 s2 s3 s4 m2 m3 m4 m5 m6 m7
              cases asg with
              | true =>
                go_wp2_with (fail)
                go_roundw
                case rel => exact ⟨k + 1, by go_num, Lib.hid (by have := HLT.out; omega), Lib.hid (by rw [HGOOD.out (by first | rfl | trivial)]; exact HST3.out)⟩
                case measure => have := HLT.out; simp [intOf]; omega
              | false =>
                go_wp2_with (at_builtin; refine DSt.append rfl _ _ rfl HST3.out ((k : Int), 11) HLE.out _ rfl rfl rfl ?_; intro gg cap w9 HST9)
                go_roundw
                case rel => exact ⟨k + 1, by go_num, Lib.hid (by have := HLT.out; omega), Lib.hid (by rw [HBAD.out (by first | rfl | trivial)]; exact HST9.out)⟩
                case measure => have := HLT.out; simp [intOf]; omega
          · have i1 : (k : Int) < args.length := by omega
            have i2 : ¬ ((k : Int) < f.f2.length) := by omega
            have hkm : k = min f.f2.length args.length := by have := HK.out; omega
            have hst := HST.out
            rw [hkm, ← HLL.out] at hst
            have HST4 := Lib.hid hst
            clear hst hkm
            go_wp2_with (fail)
            go_meet
            case rel => exact HST4
        · have i1 : ¬ ((k : Int) < args.length) := by omega
          have hkm : k = min f.f2.length args.length := by have := HK.out; omega
          have hst := HST.out
          rw [hkm, ← HLL.out] at hst
          have HST4 := Lib.hid hst
          clear hst hkm
          go_wp2_with (fail)
          go_meet
          case rel => exact HST4
    case rest =>
      have HST := hcut
      clear hcut
      obtain ⟨_, m2, m3, m4, m5, m6, m7⟩ := fn_cells HST.out.fn
      have hst := HST.out
      have hbw := hst.bel
      have HSU := Lib.hid (ref_subst_any ts AT cT wc (fun b => b < w.heap.size ∨ (w.heap.size + 3 ≤ b ∧ b < g)) (fun b hb => by have h1 := hst.hi; have h2 := hbw.size; omega) hst.ft HCT.out HPP.out.2.1 b.A7 b.c7 wc (Below.refl _ _) (Kd.C_below HFW.out.r_ hbw) HFW.out.rc)
      rw [← HTT.out] at HSU
      simp only [tyV] at HSU
      have HST4 := Lib.hid hst
      clear hst hbw HST
      go_wp2_with (go_at_call 70; refine HSU.out.mono ?_; rintro e w5 ⟨A5, c5, rfl, l5, F5, hb5⟩; have hst5 := HST4.out.below hb5; have HCE := Lib.hid (dcall_fin hst5 TT A5 c5 F5 HST4.out.hi); have HL5 := Lib.hid l5; obtain ⟨z0, z1, z2, z3, z4, q0, q1, q2, q3, q4⟩ := dfin_cells hst5; clear hb5 F5 l5 hst5)
      exact cell_tmp_end (h := w.heap.size + 1 + 1) (cs := #[.int .i64 TT.f0, .string TT.f1, .string TT.f2, .int .i64 TT.f3, .slice A5 TT.f4.length c5]) rfl HCE.out.1 Try.underlying29 (sizeTy.trans rfl) rfl rfl rfl ⟨A5, c5, _, rfl, HL5.out, HCE.out.2.1, HCE.out.2.2.1, HCE.out.2.2.2⟩
end Go.Proofs.Ytbhagjhhgmmcgaa
