/- The walks of the document's writer: Num, Text, flag. -/
import Derived.Test.YtnafeapbglflnaaDkD
import Derived.Deep.RegionHeld3
namespace Go.Proofs.Ytnafeapbglflnaa
open Go.RowKit PRef Go.Proofs.YtnafeapbglflnaaW.PrintWords
set_option linter.unusedVariables false

/-- Rows of bytes of the call's own. -/
def RS (base : Nat) (w : World) : Nat → Prop := fun k => base ≤ k ∧ ∃ cs, w.heap[k]? = some (.cells cs 5 (0, 0))
theorem RS.back {base : Nat} {w w1 : World} (h : Keeps w w1 (RS base w)) : ∀ k, k < w.heap.size → RS base w1 k → RS base w k := by
  intro k hk hs
  apply Classical.byContradiction
  intro hn
  obtain ⟨h1, cs, h2⟩ := hs
  rw [h.block k hk hn] at h2
  exact hn ⟨h1, cs, h2⟩
theorem RS.trans {base : Nat} {w w1 w2 : World} (h : Keeps w w1 (RS base w)) (k : Keeps w1 w2 (RS base w1)) : Keeps w w2 (RS base w) := h.trans k (RS.back h)
theorem RS.below {base : Nat} {w w1 : World} (h : Keeps w w1 (RS base w)) (hb : base ≤ w.heap.size) : Below base w w1 := h.below hb (fun _ hk => hk.1)
theorem RS.blk {base : Nat} {w w1 : World} (h : Keeps w w1 (RS base w)) {b : Nat} {cs : Array Value} {t : TypeId} {f : Nat × Nat} (hb : w.heap[b]? = some (.cells cs t f)) (ht : t ≠ 5) : w1.heap[b]? = some (.cells cs t f) := by
  refine h.blk hb ?_
  rintro ⟨_, cs2, h2⟩
  rw [hb] at h2
  injection h2 with h2
  injection h2 with _ h2
  exact ht h2
theorem RS.grown {base : Nat} {w wr w1 : World} {v : Value} {n : Nat} {xs : List Value} (h : Keeps w wr (RS base w)) (hown : wr.ownsRow base 5 1 v n xs) (hg : wr.grownBy w1 v.ownBlock) : Keeps w w1 (RS base w) :=
  h.grown hg fun k hk => by
    rcases Nat.lt_or_ge k w.heap.size with hlt | hge
    · exact .inl (RS.back h k hlt (own_five hown k hk))
    · exact .inr hge

set_option maxHeartbeats 1000000 in
theorem qnum_any (n base : Nat) (xs : List UInt8) (v : Value) (w : World) (hn : n ≤ 2147483647) (hown : w.ownsRow base 5 1 v xs.length (u8s xs)) (hx : xs.length ≤ 4294967296) (hb : base ≤ w.heap.size) :
    Calls Try.prog 26 #[v, .int .i64 n] w fun e w' => ∃ v', e = .returned v' ∧ w'.ownsRow base 5 1 v' (xs ++ be4 n).length (u8s (xs ++ be4 n)) ∧ Keeps w w' (RS base w) := by
  obtain ⟨i0, hi, hz0, hz1, hz2⟩ := info_parts info5
  have hnu : [Value.int .u8 ((n : Int) / 16777216), .int .u8 ((n : Int) / 65536 % 256), .int .u8 ((n : Int) / 256 % 256), .int .u8 ((n : Int) % 256)] = u8s (be4 n) := by
    simp [u8s, be4]
    omega
  have HNU := Lib.hid hnu
  have HOWN := Lib.hid hown
  clear hnu hown
  go_enter Try.func26, Try.ntmps26
  go_wp2_with (at_builtin; refine wpList_append_own _ rfl _ _ 49 rfl base 5 i0 (.int .u8 0) 1 1 Try.underlying49 hi hz0 hz1 hz2 rfl (by decide) v xs.length (u8s xs) rfl (HOWN.out.alloc _) ⟨w.heap.size, 0, none⟩ 4 4 [.int .u8 ((n : Int) / 16777216), .int .u8 ((n : Int) / 65536 % 256), .int .u8 ((n : Int) / 256 % 256), .int .u8 ((n : Int) % 256)] rfl rfl (World.news_of_block (blk_new w (.cells #[.int .u8 ((n : Int) / 16777216), .int .u8 ((n : Int) / 65536 % 256), .int .u8 ((n : Int) / 256 % 256), .int .u8 ((n : Int) % 256)] 5))) (by simp [Value.oneCell']) (by unfold maxLen; omega) (by omega) (by simp; omega) ?_)
  intro v' w2 hown2 hgr2 _
  have HR : Hid (w2.ownsRow base 5 1 v' (xs ++ be4 n).length (u8s (xs ++ be4 n)) ∧ Keeps w w2 (RS base w)) := Lib.hid (by
    refine ⟨?_, RS.grown ((Keeps.refl _ _).alloc _) (HOWN.out.alloc _) hgr2⟩
    rw [u8s_append, List.length_append, be4_length, ← HNU.out]
    exact hown2)
  obtain ⟨A, c, rfl, _⟩ := own_slice hown2
  clear hown2 hgr2
  go_wp2
  go_ret
  exact ⟨_, rfl, HR.out⟩

set_option maxHeartbeats 1000000 in
theorem qtext_any (s : ByteArray) (base : Nat) (xs : List UInt8) (v : Value) (w : World) (hn : s.size ≤ 2147483647) (hown : w.ownsRow base 5 1 v xs.length (u8s xs)) (hx : xs.length ≤ 4294967296) (hb : base ≤ w.heap.size) :
    Calls Try.prog 27 #[v, .string s] w fun e w' => ∃ v', e = .returned v' ∧ w'.ownsRow base 5 1 v' (xs ++ tx s).length (u8s (xs ++ tx s)) ∧ Keeps w w' (RS base w) := by
  obtain ⟨i0, hi, hz0, hz1, hz2⟩ := info_parts info5
  have HC := Lib.hid (qnum_any s.size base xs v w hn hown hx hb)
  clear hown
  go_enter Try.func27, Try.ntmps27
  go_wp2_with (fail)
  refine HC.out.mono ?_
  rintro e w1 ⟨v1, rfl, hown1, hk1⟩
  have HK1 := Lib.hid hk1
  have HOWN := Lib.hid hown1
  have hbw : base ≤ w1.heap.size := Nat.le_trans hb hk1.size
  have HX : Hid (xs.length ≤ 4294967296) := Lib.hid hx
  clear hown1 hk1 HC
  go_wp2_with (at_builtin; refine Lib.wpList_append_own_string _ rfl _ _ 49 9 rfl base 5 i0 Try.underlying49 Try.underlying9 hi hz0 hz1 hz2 v1 (xs ++ be4 s.size).length (u8s (xs ++ be4 s.size)) rfl HOWN.out s rfl (by have := HX.out; rw [List.length_append, be4_length]; unfold maxLen; omega) (by have := HX.out; rw [List.length_append, be4_length]; omega) hbw ?_)
  intro v' w2 hown2 hgr2 _
  have HR : Hid (w2.ownsRow base 5 1 v' (xs ++ tx s).length (u8s (xs ++ tx s)) ∧ Keeps w w2 (RS base w)) := Lib.hid (by
    refine ⟨?_, RS.trans HK1.out (RS.grown (Keeps.refl _ _) HOWN.out hgr2)⟩
    rw [tx, ← List.append_assoc, u8s_append _ s.data.toList, List.length_append, List.length_append, Array.length_toList]
    exact hown2)
  obtain ⟨A, c, rfl, _⟩ := own_slice hown2
  clear hown2 hgr2
  go_wp2
  go_ret
  exact ⟨_, rfl, HR.out⟩

set_option maxHeartbeats 1000000 in
theorem qflag_any (is : Bool) (base : Nat) (xs : List UInt8) (v : Value) (w : World) (hown : w.ownsRow base 5 1 v xs.length (u8s xs)) (hx : xs.length ≤ 4294967296) (hb : base ≤ w.heap.size) :
    Calls Try.prog 28 #[v, .bool is] w fun e w' => ∃ v', e = .returned v' ∧ w'.ownsRow base 5 1 v' (xs ++ fl is).length (u8s (xs ++ fl is)) ∧ Keeps w w' (RS base w) := by
  obtain ⟨i0, hi, hz0, hz1, hz2⟩ := info_parts info5
  have HOWN := Lib.hid hown
  clear hown
  cases is
  all_goals
    go_enter Try.func28, Try.ntmps28
    go_wp2_with (at_builtin; first
      | refine wpList_append_own _ rfl _ _ 49 rfl base 5 i0 (.int .u8 0) 1 1 Try.underlying49 hi hz0 hz1 hz2 rfl (by decide) v xs.length (u8s xs) rfl (HOWN.out.alloc _) ⟨w.heap.size, 0, none⟩ 1 1 [.int .u8 0] rfl rfl (one_news _ _ _) (by simp [Value.oneCell']) (by unfold maxLen; omega) (by omega) (by simp; omega) ?_
      | refine wpList_append_own _ rfl _ _ 49 rfl base 5 i0 (.int .u8 0) 1 1 Try.underlying49 hi hz0 hz1 hz2 rfl (by decide) v xs.length (u8s xs) rfl (HOWN.out.alloc _) ⟨w.heap.size, 0, none⟩ 1 1 [.int .u8 1] rfl rfl (one_news _ _ _) (by simp [Value.oneCell']) (by unfold maxLen; omega) (by omega) (by simp; omega) ?_)
    intro v' w2 hown2 hgr2 _
    have HK := Lib.hid (RS.grown ((Keeps.refl w (RS base w)).alloc _) (HOWN.out.alloc _) hgr2)
    have HO := Lib.hid hown2
    obtain ⟨A, c, rfl, _⟩ := own_slice hown2
    clear hown2 hgr2
    go_wp2
    go_ret
    refine ⟨_, rfl, ?_, HK.out⟩
    rw [u8s_append, List.length_append]
    exact HO.out
end Go.Proofs.Ytnafeapbglflnaa
