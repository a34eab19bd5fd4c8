/- The walk of pos.New. -/
import Derived.Test.YtpncoliiimpgcaaWalkB
import Derived.Test.YtpncoliiimpgcaaPos
import Derived.Deep.LoopGhost
import Derived.Lib.OthersKept
import Derived.OwnWalk
import Derived.ArgAppend
import Derived.Handy
import Derived.WalkSmall
namespace Go.Proofs.Ytpncoliiimpgcaa
open Go.RowKit

theorem Try.info3 : (Try.prog.info? 3).map (fun i => (i.zero, i.size, i.bytes)) = some (some (.int .i64 0), 1, 8) := by kernel_rfl
def nums (xs : List Int) : List Value := xs.map fun x => .int .i64 x

theorem blk_cell {W : World} {b : Nat} {cs : Array Value} {t : TypeId} {f : Nat × Nat} (h : W.heap[b]? = some (.cells cs t f)) (j : Nat) : W.cell? ⟨b, j, none⟩ = cs[j]? := by simp [World.cell?, h]
theorem blk_free {W : World} {b : Nat} {cs : Array Value} {t : TypeId} (h : W.heap[b]? = some (.cells cs t (0, 0))) (j : Nat) : W.frozen? ⟨b, j, none⟩ = false := by simp [World.frozen?, h]
theorem blk_lt {W : World} {b : Nat} {o : Obj} (h : W.heap[b]? = some o) : b < W.heap.size := (Array.getElem?_eq_some_iff.1 h).1
theorem blk_set {W : World} {b : Nat} {cs : Array Value} {t : TypeId} {f : Nat × Nat} (h : W.heap[b]? = some (.cells cs t f)) (j : Nat) (v : Value) :
    (W.setCell ⟨b, j, none⟩ v).heap[b]? = some (.cells (cs.setIfInBounds j v) t f) := by
  simp [World.setCell, Array.getElem?_modify, h]

theorem own_ne {w : World} {base : Nat} {e : TypeId} {size n : Nat} {v : Value} {xs : List Value} (h : w.ownsRow base e size v n xs) {k : Nat} {o : Obj} (hk : w.heap[k]? = some o) (ho : ∀ cs f, o ≠ .cells cs e f) : v.ownBlock ≠ some k := by
  intro hv
  rcases h.2 with ⟨rfl, _⟩ | ⟨g, cap, cur, rfl, _, hg, _⟩
  · simp [Value.ownBlock] at hv
  · simp [Value.ownBlock] at hv
    subst hv
    rw [hk] at hg
    injection hg with hg
    exact ho _ _ hg

theorem own_kept {w w' : World} {base : Nat} {e : TypeId} {size n : Nat} {v : Value} {xs : List Value} (h : w.ownsRow base e size v n xs) (hb : ∀ g, v.ownBlock = some g → w'.heap[g]? = w.heap[g]?) : w'.ownsRow base e size v n xs := by
  refine ⟨h.1, ?_⟩
  rcases h.2 with hn | ⟨g, cap, cur, rfl, hbg, hg, rest⟩
  · exact .inl hn
  · exact .inr ⟨g, cap, cur, rfl, hbg, by rw [hb g (by simp [Value.ownBlock])]; exact hg, rest⟩

/-- What holds while New goes through the text: L has been found. -/
structure NewRel (s : ByteArray) (w wr : World) (pos : Nat) (v : Value) (L : List Int) : Prop where
  it : wr.heap[w.heap.size + 1 + 1]? = some (.stringIter s pos)
  blk : wr.heap[w.heap.size + 1]? = some (.cells #[.string s, v] 45 (0, 0))
  own : wr.ownsRow w.heap.size 3 1 v L.length (nums L)
  bel : Below w.heap.size w wr
  le : pos ≤ s.size

theorem NewRel.next {s : ByteArray} {w wr : World} {pos : Nat} {v : Value} {L : List Int} (h : NewRel s w wr pos v L) (p : Nat) (hp : p ≤ s.size) : NewRel s w (wr.iterAt (w.heap.size + 1 + 1) s p) p v L := by
  have hne := own_ne h.own h.it (by intros; simp)
  refine ⟨Lib.iterAt_heap wr _ s pos p h.it, ?_, ?_, Lib.below_iterAt h.bel (by omega) s p, hp⟩
  · rw [Lib.iterAt_other _ _ _ _ _ (by omega)]; exact h.blk
  · exact own_kept h.own fun g hg => Lib.iterAt_other _ _ _ _ _ (fun e => hne (by rw [hg, e]))

/-- Behind the append, and its store. -/
theorem NewRel.put {s : ByteArray} {w wr w1 : World} {pos : Nat} {v v' : Value} {L : List Int} {o : Obj} {x : Int} (h : NewRel s w wr pos v L)
    (hown : w1.ownsRow w.heap.size 3 1 v' (L.length + 1) (nums L ++ [.int .i64 x])) (hg : (wr.alloc o).grownBy w1 v.ownBlock) :
    w1.heap[w.heap.size + 1]? = some (.cells #[.string s, v] 45 (0, 0)) ∧ NewRel s w (w1.setCell ⟨w.heap.size + 1, 1, none⟩ v') pos v' (L ++ [x]) := by
  have hn1 := own_ne h.own h.it (by intros; simp)
  have hn2 := own_ne h.own h.blk (by intros; simp)
  have hb1 : w1.heap[w.heap.size + 1]? = some (.cells #[.string s, v] 45 (0, 0)) := (hg.block _ (by have := blk_lt h.blk; simp; omega) (fun e => hn2 e.symm)).trans ((heap_alloc_old _ _ (blk_lt h.blk)).trans h.blk)
  have hi1 : w1.heap[w.heap.size + 1 + 1]? = some (.stringIter s pos) := (hg.block _ (by have := blk_lt h.it; simp; omega) (fun e => hn1 e.symm)).trans ((heap_alloc_old _ _ (blk_lt h.it)).trans h.it)
  have ho : ∀ k, k ≠ w.heap.size + 1 → (w1.setCell ⟨w.heap.size + 1, 1, none⟩ v').heap[k]? = w1.heap[k]? := fun k hk => by
    simp [World.setCell, Array.getElem?_modify]; intro e; omega
  refine ⟨hb1, ⟨by rw [ho _ (by omega)]; exact hi1, by simpa using blk_set hb1 1 v', ?_, ?_, h.le⟩⟩
  · have h2 : w1.ownsRow w.heap.size 3 1 v' (L ++ [x]).length (nums (L ++ [x])) := by simpa [nums] using hown
    exact own_kept h2 fun g hg' => ho g (fun e => own_ne h2 hb1 (by intros; simp) (by rw [hg', e]))
  · have hB1 : Below w.heap.size w w1 := Below.grown (bel_alloc h.bel o) hg (by have := h.bel.size; simp; omega) (fun k hk => (h.own.lt k hk).1)
    exact hB1.setCell (by simp) _

set_option maxRecDepth 100000 in
set_option maxHeartbeats 2000000 in
theorem new_any (s : ByteArray) (w : World) (hs : s.size ≤ 1048576) :
    Calls Try.prog 11 #[.string s] w fun e w' => ∃ b g cap, e = .returned (.pointer (some ⟨b, 0, none⟩)) ∧ IsLines w' b s g cap (begs s) ∧ Below w.heap.size w w' := by
  obtain ⟨i0, hi, hz0, hz1, hz2⟩ := info_parts Try.info3
  go_enter Try.func11, Try.ntmps11
  go_wp2
  go_loopw [] (fun wr => ∃ (pos : Nat) (v : Value), NewRel s w wr pos v (begsTo s pos)) (fun wr => s.size - wr.iterPos (w.heap.size + 1 + 1))
  case atStart =>
    refine ⟨0, .slice (some ⟨w.heap.size, 0, none⟩) 1 1, ⟨?_, ?_, ?_, ?_, Nat.zero_le _⟩⟩
    · simpa using World.iter_heap ((w.alloc (.cells #[.int .i64 0] 3)).alloc (.cells #[.string s, .slice (some ⟨w.heap.size, 0, none⟩) 1 1] 45)) s 0
    · refine (heap_alloc_old _ _ (by simp)).trans ?_
      simpa using heap_alloc_new (w.alloc (.cells #[.int .i64 0] 3)) (.cells #[.string s, .slice (some ⟨w.heap.size, 0, none⟩) 1 1] 45)
    · refine ⟨rfl, .inr ⟨w.heap.size, 1, #[.int .i64 0], rfl, Nat.le_refl _, ?_, Nat.le_refl _, by simp [maxLen], rfl, rfl⟩⟩
      exact (heap_alloc_old _ _ (by simp; omega)).trans ((heap_alloc_old _ _ (by simp)).trans (heap_alloc_new w _))
    · exact bel_alloc (bel_alloc (bel_alloc (Below.refl _ _) _) _) _
  case round =>
    obtain ⟨pos, v, R⟩ := hrel
    have hpos0 := iterPos_of R.it
    by_cases hp : pos < s.size
    · have hnx : ∀ ty, (Instr.next (.pointer (some ⟨w.heap.size + 1 + 1, 0, none⟩)) true ty).run Try.prog wr = _ := fun ty => Lib.run_next_any_at wr (w.heap.size + 1 + 1) s pos ty R.it hp
      have hd := dec_facts s pos hp
      have R1 := R.next (pos + (Utf8.decode s pos).2) hd.2.1
      have hM := begsTo_dec s pos hp
      have hL := begsTo_length_le s pos
      have HD := Lib.hid hd.1
      obtain ⟨W1, hW1⟩ : ∃ W1, W1 = wr.iterAt (w.heap.size + 1 + 1) s (pos + (Utf8.decode s pos).2) := ⟨_, rfl⟩
      rw [← hW1] at hnx R1
      have hpos1 := iterPos_of R1.it
      clear hW1 R
      have HM := Lib.hid hM
      have HP := Lib.hid hpos0
      clear hM hd hpos0
      by_cases hc : (Utf8.decode s pos).1 = 10
      · rw [if_pos hc] at HM
        have hcb : (((Utf8.decode s pos).1 : Int) == 10) = true := by rw [hc]; rfl
        have hcell := blk_cell R1.blk 1
        have hB := Lib.hid R1
        have hown := R1.own
        have hlt1 := blk_lt R1.blk
        clear hc R1 hpos1
        generalize begsTo s pos = L at *
        generalize (Utf8.decode s pos).1 = c at *
        go_wp2_with (at_builtin; refine wpList_append_own _ rfl _ _ 43 rfl w.heap.size 3 i0 (.int .i64 0) 1 8 Try.underlying43 hi hz0 hz1 hz2 rfl (by decide) _ _ _ rfl (hown.alloc _) ⟨W1.heap.size, 0, none⟩ 1 1 [.int .i64 ((pos : Int) + 1)] rfl rfl ?c1 ?c2 ?c3 ?c4 ?c5 ?_)
        case c1 =>
          intro j u hu
          cases j with
          | zero => simp at hu; subst hu; simp [Addr.add]
          | succ j => simp at hu
        case c2 => intro u hu; simp at hu; subst hu; rfl
        case c3 => unfold maxLen; omega
        case c4 => omega
        case c5 => have := hB.out.bel.size; simp; omega
        intro v' w1 hown1 hg1 _
        obtain ⟨hb1, R2⟩ := hB.out.put hown1 hg1
        have hcell1 := blk_cell hb1 1
        have hfr1 := blk_free hb1 1
        have HR2 := Lib.hid R2
        rcases hown1.2 with ⟨_, h0⟩ | ⟨g, cap, cur, rfl, _⟩
        · omega
        clear R2 hown1 hg1 hown hcell hB hb1 hcb
        go_wp2
        go_roundw
        case rel => exact ⟨_, _, by rw [HM.out]; exact HR2.out⟩
        case measure =>
          rw [iterPos_of HR2.out.it, HP.out]
          have := HD.out
          omega
      · rw [if_neg hc] at HM
        have hcb : (((Utf8.decode s pos).1 : Int) == 10) = false := by simp; omega
        have HR2 := Lib.hid R1
        clear R1 hc hL
        go_wp2
        go_roundw
        case rel => exact ⟨_, v, by rw [HM.out]; exact HR2.out⟩
        case measure =>
          rw [hpos1, HP.out]
          have := HD.out
          omega
    · have hnx : ∀ ty, (Instr.next (.pointer (some ⟨w.heap.size + 1 + 1, 0, none⟩)) true ty).run Try.prog wr = _ := fun ty => Lib.run_next_end_at wr (w.heap.size + 1 + 1) s pos ty R.it hp
      obtain rfl : pos = s.size := by have := R.le; omega
      have hL := begsTo_length_le s s.size
      have hcell := blk_cell R.blk 1
      have hfree := blk_free R.blk 1
      have hown := R.own
      have hlt1 := blk_lt R.blk
      generalize hLL : begsTo s s.size = L at *
      have HL := Lib.hid hLL
      clear hLL hpos0 hp
      rcases hown.2 with ⟨_, h0⟩ | ⟨g, cap, cur, rfl, hbg, hg, hncap, hcm, hcs, htk⟩
      · omega
      have hcells := hown.cells (g := g) rfl
      have HR := Lib.hid R
      clear R hown
      go_wp2_with (at_builtin; refine wpList_append_arg _ rfl _ _ 43 rfl 3 i0 (.int .i64 0) 1 8 Try.underlying43 hi hz0 hz1 hz2 rfl (by decide) g 0 L.length L.length (nums L) rfl (by simp [nums]) ?c1 ⟨wr.heap.size, 0, none⟩ 1 1 [.int .i64 ((s.size : Int) + 1)] rfl rfl ?c2 ?c3 ?c4 ?c5 ?c6 ?c7 ?c8)
      case c1 =>
        intro j u hj
        have h1 := hcells j u hj
        rw [Addr.add_lit] at h1
        exact cell_later (bel_alloc (Below.refl _ _) _) h1
      case c2 =>
        intro j u hu
        cases j with
        | zero => simp at hu; subst hu; simp [Addr.add]
        | succ j => simp at hu
      case c3 => intro u hu; simp at hu; subst hu; rfl
      case c4 => intro h; omega
      case c5 => unfold maxLen; omega
      case c6 => omega
      case c7 => intro h; omega
      intro v' w1 hown1 hg1
      have hb1 : w1.heap[w.heap.size + 1]? = _ := (hg1.block _ (by simp; omega) (by simp)).trans ((heap_alloc_old _ _ hlt1).trans HR.out.blk)
      have hcell1 := blk_cell hb1 1
      have hfr1 := blk_free hb1 1
      have hbase : w.heap.size ≤ (wr.alloc (.cells #[.int .i64 ((s.size : Int) + 1)] 3)).heap.size := by have := HR.out.bel.size; simp; omega
      have hbel : Below w.heap.size w w1 := Below.grown (bel_alloc HR.out.bel _) hg1 hbase (by simp)
      rcases hown1.2 with ⟨_, h0⟩ | ⟨g', cap', cur', rfl, hbg', hg', _, _, hcs', htk'⟩
      · omega
      have hne : g' ≠ w.heap.size + 1 := by intro e; rw [e, hb1] at hg'; injection hg' with hg'; injection hg' with _ ht; cases ht
      have HX : Hid (IsLines (w1.setCell ⟨w.heap.size + 1, 1, none⟩ (.slice (some ⟨g', 0, none⟩) (L.length + 1) cap')) (w.heap.size + 1) s g' cap' (begs s) ∧ Below w.heap.size w (w1.setCell ⟨w.heap.size + 1, 1, none⟩ (.slice (some ⟨g', 0, none⟩) (L.length + 1) cap'))) := by
        have hb2 := blk_set hb1 1 (.slice (some ⟨g', 0, none⟩) (L.length + 1) cap')
        refine Lib.hid ⟨⟨(blk_cell hb2 0).trans rfl, (blk_cell hb2 1).trans ?_, fun i hi => ?_⟩, hbel.setCell (by simp) _⟩
        · unfold begs; rw [HL.out]; simp
        · have hgo : (w1.setCell ⟨w.heap.size + 1, 1, none⟩ (.slice (some ⟨g', 0, none⟩) (L.length + 1) cap')).heap[g']? = some (.cells cur' 3 (0, 0)) := by
            simp [World.setCell, Array.getElem?_modify]; rw [if_neg (fun e => hne e.symm)]; exact hg'
          rw [blk_cell hgo i]
          have hlen : (begs s).length = L.length + 1 := by unfold begs; rw [HL.out]; simp
          have h2 : cur'.toList[i]? = some (.int .i64 ((begs s).getD i 0)) := by
            have h3 : (cur'.toList.take ((L.length + 1) * 1))[i]? = (nums L ++ [.int .i64 ((s.size : Int) + 1)])[i]? := by rw [htk']
            rw [List.getElem?_take_of_lt (by omega)] at h3
            rw [h3]
            have h4 : nums L ++ [.int .i64 ((s.size : Int) + 1)] = nums (begs s) := by unfold begs nums; rw [HL.out]; simp
            rw [h4]
            simp [nums, List.getD_eq_getElem?_getD, List.getElem?_eq_getElem hi]
          simpa using h2
      clear hown1 hg1 hcells hcell hfree hb1 hg hg' htk htk' hbel
      go_wp2
      go_ret
      exact ⟨_, _, _, rfl, HX.out⟩
end Go.Proofs.Ytpncoliiimpgcaa
