/- Numbers and texts as bytes; the walks of depkey's writer. -/
import Derived.Test.YtnafeapbglflnaaBase
import Derived.Deep.RegionLaw
import Derived.Lib.AppendStr
namespace Go.Proofs.Ytnafeapbglflnaa
open Go.RowKit
set_option linter.unusedVariables false

/-- A number's four bytes. -/
def be4 (n : Nat) : List UInt8 := [UInt8.ofNat (n / 16777216), UInt8.ofNat (n / 65536), UInt8.ofNat (n / 256), UInt8.ofNat n]
theorem be4_length (n : Nat) : (be4 n).length = 4 := rfl
/-- Bytes as cells. -/
def u8s (xs : List UInt8) : List Value := xs.map fun b => .int .u8 b.toNat
theorem u8s_append (xs ys : List UInt8) : u8s (xs ++ ys) = u8s xs ++ u8s ys := by simp [u8s]
theorem u8s_length (xs : List UInt8) : (u8s xs).length = xs.length := by simp [u8s]
theorem u8s_one {xs : List UInt8} : ∀ u ∈ u8s xs, u.oneCell' = true := by
  intro u hu
  simp only [u8s, List.mem_map] at hu
  obtain ⟨b, _, rfl⟩ := hu
  rfl

/-- The writer's array, the first k bytes of a number laid. -/
def arrAt (n : Nat) (k : Nat) : Array Value := #[.int .u8 (if 0 < k then ((n / 16777216 % 256 : Nat) : Int) else 0), .int .u8 (if 1 < k then ((n / 65536 % 256 : Nat) : Int) else 0), .int .u8 (if 2 < k then ((n / 256 % 256 : Nat) : Int) else 0), .int .u8 (if 3 < k then ((n % 256 : Nat) : Int) else 0)]

theorem put_any (n k : Nat) (a h : Nat) (W : World) (t : TypeId) (hn : n ≤ 2147483647) (hk : k < 4) (h1 : W.heap[h]? = some (.cells #[.int .i64 n] 3 (0, 0))) (h2 : W.heap[a]? = some (.cells (arrAt n k) t (0, 0))) :
    Calls Try.prog 41 #[.int .i64 k, .pointer (some ⟨h, 0, none⟩), .pointer (some ⟨a, 0, none⟩)] W fun e w' => e = .returned (.tuple #[]) ∧ w'.heap[a]? = some (.cells (arrAt n (k + 1)) t (0, 0)) ∧ Keeps W w' (· = a) := by
  have c1 : W.cell? ⟨h, 0, none⟩ = some (.int .i64 n) := (blk_cell h1 0).trans rfl
  have f2 := blk_free h2 k
  have hb2 := Lib.hid (blk_set h2 k)
  have c2 := blk_cell h2 k
  clear h1 h2
  have hkk : k = 0 ∨ k = 1 ∨ k = 2 ∨ k = 3 := by omega
  rcases hkk with rfl | rfl | rfl | rfl
  all_goals
    replace c2 := c2.trans (show _ = some (Value.int .u8 0) from rfl)
    go_enter Try.func41, Try.ntmps41
    go_wp2
    go_end0
    refine ⟨rfl, (hb2.out _).trans ?_, (Keeps.refl _ _).set _ _ _ (.inl rfl)⟩
    simp [arrAt]
    try omega

/-- What a writer holds: its bytes lie in a row of the call's own. -/
def IsW (base g : Nat) (xs : List UInt8) (w : World) : Prop := ∃ v, w.heap[g]? = some (.cells #[v] 51 (0, 0)) ∧ base ≤ g ∧ w.ownsRow base 5 1 v xs.length (u8s xs)

theorem info5 : (Try.prog.info? 5).map (fun i => (i.zero, i.size, i.bytes)) = some (some (.int .u8 0), 1, 1) := by kernel_rfl
theorem arr_u8s (n : Nat) (hn : n ≤ 2147483647) : (arrAt n 4).toList = u8s (be4 n) := by
  simp [arrAt, u8s, be4]

/-- What a writer's calls may turn: its block, and rows of bytes of the call's own. -/
def WS (base g : Nat) (w : World) : Nat → Prop := fun k => base ≤ k ∧ (k = g ∨ ∃ cs, w.heap[k]? = some (.cells cs 5 (0, 0)))
theorem WS.back {base g : Nat} {w w1 : World} (h : Keeps w w1 (WS base g w)) : ∀ k, k < w.heap.size → WS base g w1 k → WS base g w k := by
  intro k hk hs
  apply Classical.byContradiction
  intro hn
  obtain ⟨h1, h2⟩ := hs
  rcases h2 with h2 | ⟨cs, h2⟩
  · exact hn ⟨h1, .inl h2⟩
  · rw [h.block k hk hn] at h2
    exact hn ⟨h1, .inr ⟨cs, h2⟩⟩
theorem WS.trans {base g : Nat} {w w1 w2 : World} (h : Keeps w w1 (WS base g w)) (k : Keeps w1 w2 (WS base g w1)) : Keeps w w2 (WS base g w) := h.trans k (WS.back h)
theorem WS.below {base g : Nat} {w w1 : World} (h : Keeps w w1 (WS base g w)) (hb : base ≤ w.heap.size) : Below base w w1 := h.below hb (fun _ hk => hk.1)
/-- A block of another type stays. -/
theorem WS.blk {base g : Nat} {w w1 : World} (h : Keeps w w1 (WS base g w)) {b : Nat} {cs : Array Value} {t : TypeId} {f : Nat × Nat} (hb : w.heap[b]? = some (.cells cs t f)) (ht : t ≠ 5) (hg : b ≠ g) : w1.heap[b]? = some (.cells cs t f) := by
  refine h.blk hb ?_
  rintro ⟨_, h2 | ⟨cs2, h2⟩⟩
  · exact hg h2
  · rw [hb] at h2
    injection h2 with h2
    injection h2 with _ h2
    exact ht h2

/-- A writer's bytes, behind an append and its store. -/
theorem isW_put {base g : Nat} {xs ys : List UInt8} {w wr w1 : World} {v v' : Value} (hb : wr.heap[g]? = some (.cells #[v] 51 (0, 0))) (hbg : base ≤ g) (hne : v.ownBlock ≠ some g)
    (hgr : wr.grownBy w1 v.ownBlock) (hown : w1.ownsRow base 5 1 v' (xs.length + ys.length) (u8s xs ++ u8s ys)) (hB : Keeps w wr (WS base g w)) (hv : ∀ k, v.ownBlock = some k → base ≤ k ∧ ∃ cs, wr.heap[k]? = some (.cells cs 5 (0, 0))) :
    IsW base g (xs ++ ys) (w1.setCell ⟨g, 0, none⟩ v') ∧ Keeps w (w1.setCell ⟨g, 0, none⟩ v') (WS base g w) := by
  have hb1 : w1.heap[g]? = some (.cells #[v] 51 (0, 0)) := (hgr.block g (blk_lt hb) (fun e => hne e.symm)).trans hb
  have hB1 : Keeps w w1 (WS base g w) := hB.grown hgr (fun k hk => by
    obtain ⟨h1, cs, h2⟩ := hv k hk
    rcases Nat.lt_or_ge k w.heap.size with hlt | hge
    · exact .inl (WS.back hB k hlt ⟨h1, .inr ⟨cs, h2⟩⟩)
    · exact .inr hge)
  refine ⟨⟨v', by simpa using blk_set hb1 0 v', hbg, ?_⟩, hB1.set g 0 v' (.inl ⟨hbg, .inl rfl⟩)⟩
  have h2 : w1.ownsRow base 5 1 v' (xs ++ ys).length (u8s (xs ++ ys)) := by rw [u8s_append, List.length_append]; exact hown
  have hn2 : v'.ownBlock ≠ some g := own_ne h2 hb1 (by intro cs f e; injection e with _ e; cases e)
  exact own_kept h2 fun k hk => blk_far _ _ _ _ _ (fun e => hn2 (by rw [hk, e]))
theorem own_five {w : World} {base : Nat} {v : Value} {n : Nat} {xs : List Value} (h : w.ownsRow base 5 1 v n xs) : ∀ k, v.ownBlock = some k → base ≤ k ∧ ∃ cs, w.heap[k]? = some (.cells cs 5 (0, 0)) := by
  intro k hk
  rcases h.2 with ⟨rfl, _⟩ | ⟨g, cap, cur, rfl, hb, hg, _⟩
  · simp [Value.ownBlock] at hk
  · simp [Value.ownBlock] at hk
    subst hk
    exact ⟨hb, cur, hg⟩

theorem bel_drew' {B : Nat} {w W : World} (h : Below B w W) : Below B w W.drew := ⟨h.os, h.tape, h.output, h.size, h.block⟩

set_option maxHeartbeats 1000000 in
theorem num_any (n base g : Nat) (xs : List UInt8) (w : World) (hn : n ≤ 2147483647) (hw : IsW base g xs w) (hx : xs.length ≤ 4294967296) :
    Calls Try.prog 24 #[.pointer (some ⟨g, 0, none⟩), .int .i64 n] w fun e w' => e = .returned (.tuple #[]) ∧ IsW base g (xs ++ be4 n) w' ∧ Keeps w w' (WS base g w) := by
  obtain ⟨v, hb, hbg, hown⟩ := hw
  obtain ⟨i0, hi, hz0, hz1, hz2⟩ := info_parts info5
  have HBG := Lib.hid hbg
  have HG := Lib.hid (blk_lt hb)
  have HBW : Hid (base ≤ w.heap.size) := Lib.hid (by have := blk_lt hb; omega)
  go_enter Try.func24, Try.ntmps24
  go_wp2
  go_loopw [8] (fun iv wr => ∃ k : Nat, k ≤ 4 ∧ iv = .int .i64 k ∧ wr.heap[w.heap.size]? = some (.cells #[.int .i64 n] 3 (0, 0)) ∧ wr.heap[w.heap.size + 1]? = some (.cells (arrAt n k) 70 (0, 0)) ∧ Below w.heap.size w wr) (fun iv _ => 4 - (intOf iv).toNat)
  case atStart =>
    refine ⟨0, by omega, rfl, blk_alloc (blk_new _ _) _, ?_, bel_alloc (bel_alloc (Below.refl _ _) _) _⟩
    have h0 := blk_new (w.alloc (.cells #[.int .i64 n] 3)) (.cells (arrAt n 0) 70)
    rw [show (w.alloc (.cells #[.int .i64 n] 3)).heap.size = w.heap.size + 1 by simp] at h0
    exact h0
  case round =>
    obtain ⟨k, hk, rfl, h1, h2, hbw⟩ := hrel
    by_cases hlt : k < 4
    · have HC := Lib.hid (put_any n k (w.heap.size + 1) w.heap.size wr 70 hn hlt h1 h2)
      have H1 := Lib.hid h1
      have HB := Lib.hid hbw
      clear h1 h2 hbw hown hb
      go_wp2_with (fail)
      refine HC.out.mono ?_
      rintro e w3 ⟨rfl, h3, hk3⟩
      have H3 := Lib.hid h3
      have HK3 := Lib.hid hk3
      clear h3 hk3
      go_wp2
      go_roundw
      case rel =>
        refine ⟨k + 1, by omega, by go_num, HK3.out.blk H1.out (by omega), H3.out, ?_⟩
        exact ((Keeps.of_below HB.out (fun j => w.heap.size ≤ j)).trans HK3.out (fun j hj e => by omega)).bel (fun j hj => hj)
      case measure => simp [intOf]; omega
    · obtain rfl : k = 4 := by omega
      have hb3 := blk_later hbw hb
      have hown3 := own_later hown hbw
      have hcell : wr.cell? ⟨g, 0, none⟩ = some v := (blk_cell hb3 0).trans rfl
      have hlt2 := blk_lt h2
      have hne : v.ownBlock ≠ some g := own_ne hown3 hb3 (by intro cs f e; injection e with _ e; cases e)
      have HN := Lib.hid hne
      have hrow : ∀ j u, (u8s (be4 n))[j]? = some u → wr.cell? ((⟨w.heap.size + 1, 0, none⟩ : Addr).add j) = some u := by
        intro j u hu
        rw [← arr_u8s n hn] at hu
        rw [Addr.add_lit, Nat.zero_add, blk_cell h2 j]
        simpa using hu
      have HROW := Lib.hid hrow
      have HB3 := Lib.hid hb3
      have HBW3 := Lib.hid hbw
      clear h1 h2 hb hown hne hrow hb3 hbw
      go_wp2_with (fail)
      go_region_law (first | (refine step_append_lies _ rfl _ _ 49 rfl base 5 i0 (.int .u8 0) 1 1 Try.underlying49 hi hz0 hz1 hz2 rfl (by decide) v xs.length (u8s xs) rfl hown3 ⟨w.heap.size + 1, 0, none⟩ 4 4 (u8s (be4 n)) rfl rfl HROW.out u8s_one (by omega) (by unfold maxLen; omega) (by omega) (by have := HBW3.out.size; have := HBW.out; simp; omega) _ rfl ?_; intro g2 cap w1 hown hgrow hat hlt4; have hb9 : w1.heap[g]? = some (.cells #[v] 51 (0, 0)) := (hgrow.block g (blk_lt HB3.out) (fun e => HN.out e.symm)).trans HB3.out; have hc9 : w1.cell? ⟨g, 0, none⟩ = some v := (blk_cell hb9 0).trans rfl; have hf9 := blk_free hb9 0; have HB9 := Lib.hid hb9; have HGR := Lib.hid hgrow; have HAT := Lib.hid hat; have HO := Lib.hid hown; clear hgrow hat hb9 hown))
      go_end0
      have hBB : Keeps w wr.drew (WS base g w) := (Keeps.of_below HBW3.out _).drew
      obtain ⟨h1, h2⟩ := isW_put (xs := xs) (ys := be4 n) (w := w) (wr := wr.drew) HB3.out HBG.out HN.out HGR.out HO.out hBB (own_five (w := wr.drew) hown3)
      exact ⟨rfl, h1, h2⟩

theorem IsW.lt {base g : Nat} {xs : List UInt8} {w : World} (h : IsW base g xs w) : g < w.heap.size := by
  obtain ⟨v, hb, _⟩ := h
  exact blk_lt hb

set_option maxHeartbeats 1000000 in
theorem wtext_any (s : ByteArray) (base g : Nat) (xs : List UInt8) (w : World) (hn : s.size ≤ 2147483647) (hw : IsW base g xs w) (hx : xs.length ≤ 4294967296) :
    Calls Try.prog 23 #[.pointer (some ⟨g, 0, none⟩), .string s] w fun e w' => e = .returned (.tuple #[]) ∧ IsW base g (xs ++ be4 s.size ++ s.data.toList) w' ∧ Keeps w w' (WS base g w) := by
  obtain ⟨i0, hi, hz0, hz1, hz2⟩ := info_parts info5
  have hc := num_any s.size base g xs w hn hw hx
  have hle : base ≤ w.heap.size := by obtain ⟨v, hb, hbg, _⟩ := hw; have := blk_lt hb; omega
  have HC := Lib.hid hc
  have HLE := Lib.hid hle
  clear hc hw hle
  go_enter Try.func23, Try.ntmps23
  go_wp2_with (fail)
  refine HC.out.mono ?_
  rintro e w1 ⟨rfl, ⟨v, hb, hbg, hown⟩, hB⟩
  have hcell : w1.cell? ⟨g, 0, none⟩ = some v := (blk_cell hb 0).trans rfl
  have hne : v.ownBlock ≠ some g := own_ne hown hb (by intro cs f e; injection e with _ e; cases e)
  have HB := Lib.hid hb
  have HN := Lib.hid hne
  have HBB := Lib.hid hB
  have HBG := Lib.hid hbg
  have hlt1 := blk_lt hb
  have hbw : base ≤ w1.heap.size := by omega
  have HX : Hid (xs.length ≤ 4294967296) := Lib.hid hx
  clear hb hne hB hbg
  go_wp2_with (at_builtin; refine Lib.wpList_append_own_string _ rfl _ _ 49 9 rfl base 5 i0 Try.underlying49 Try.underlying9 hi hz0 hz1 hz2 v (xs ++ be4 s.size).length (u8s (xs ++ be4 s.size)) rfl hown s rfl (by have := HX.out; rw [List.length_append, be4_length]; unfold maxLen; omega) (by have := HX.out; rw [List.length_append, be4_length]; omega) hbw ?_)
  intro v' w2 hown2 hgrow _
  have hb9 : w2.heap[g]? = some (.cells #[v] 51 (0, 0)) := (hgrow.block g (blk_lt HB.out) (fun e => HN.out e.symm)).trans HB.out
  have hc9 : w2.cell? ⟨g, 0, none⟩ = some v := (blk_cell hb9 0).trans rfl
  have hf9 := blk_free hb9 0
  have hown3 : w2.ownsRow base 5 1 v' ((xs ++ be4 s.size).length + s.data.toList.length) (u8s (xs ++ be4 s.size) ++ u8s s.data.toList) := by
    rw [List.length_append, Array.length_toList]
    exact hown2
  have HR := Lib.hid (isW_put (xs := xs ++ be4 s.size) (ys := s.data.toList) HB.out HBG.out HN.out hgrow hown3 HBB.out (own_five hown))
  obtain ⟨A, c, rfl, _⟩ := own_slice hown2
  clear hown hown2 hown3 hgrow hb9 hcell
  go_wp2
  go_end0
  exact ⟨rfl, HR.out⟩

/-- A flag's byte. -/
def fl (b : Bool) : List UInt8 := [if b then 1 else 0]

set_option maxHeartbeats 1000000 in
theorem wflag_any (is : Bool) (base g : Nat) (xs : List UInt8) (w : World) (hw : IsW base g xs w) (hx : xs.length ≤ 4294967296) :
    Calls Try.prog 25 #[.pointer (some ⟨g, 0, none⟩), .bool is] w fun e w' => e = .returned (.tuple #[]) ∧ IsW base g (xs ++ fl is) w' ∧ Keeps w w' (WS base g w) := by
  obtain ⟨i0, hi, hz0, hz1, hz2⟩ := info_parts info5
  obtain ⟨v, hb, hbg, hown⟩ := hw
  have hcell : w.cell? ⟨g, 0, none⟩ = some v := (blk_cell hb 0).trans rfl
  have hne : v.ownBlock ≠ some g := own_ne hown hb (by intro cs f e; injection e with _ e; cases e)
  have HB := Lib.hid hb
  have HN := Lib.hid hne
  have HBG := Lib.hid hbg
  have hlt1 := blk_lt hb
  have hbw : base ≤ w.heap.size := by omega
  clear hb hne hbg
  cases is
  all_goals
    go_enter Try.func25, Try.ntmps25
    go_wp2_with (at_builtin; first
      | refine wpList_append_own _ rfl _ _ 49 rfl base 5 i0 (.int .u8 0) 1 1 Try.underlying49 hi hz0 hz1 hz2 rfl (by decide) v xs.length (u8s xs) rfl (hown.alloc _) ⟨w.heap.size, 0, none⟩ 1 1 [.int .u8 0] rfl rfl (one_news _ _ _) (by simp [Value.oneCell']) (by unfold maxLen; omega) (by omega) (by simp; omega) ?_
      | refine wpList_append_own _ rfl _ _ 49 rfl base 5 i0 (.int .u8 0) 1 1 Try.underlying49 hi hz0 hz1 hz2 rfl (by decide) v xs.length (u8s xs) rfl (hown.alloc _) ⟨w.heap.size, 0, none⟩ 1 1 [.int .u8 1] rfl rfl (one_news _ _ _) (by simp [Value.oneCell']) (by unfold maxLen; omega) (by omega) (by simp; omega) ?_)
  · intro v' w2 hown2 hgrow _
    have hb9 : w2.heap[g]? = some (.cells #[v] 51 (0, 0)) := (hgrow.block g (by simp; omega) (fun e => HN.out e.symm)).trans (blk_alloc HB.out _)
    have hc9 : w2.cell? ⟨g, 0, none⟩ = some v := (blk_cell hb9 0).trans rfl
    have hf9 := blk_free hb9 0
    have HR := Lib.hid (isW_put (w := w) (xs := xs) (ys := [0]) (blk_alloc HB.out _) HBG.out HN.out hgrow hown2 ((Keeps.refl _ _).alloc _) (own_five (hown.alloc _)))
    obtain ⟨A, c, rfl, _⟩ := own_slice hown2
    clear hown hown2 hgrow hb9 hcell
    go_wp2
    go_end0
    exact ⟨rfl, HR.out⟩
  · intro v' w2 hown2 hgrow _
    have hb9 : w2.heap[g]? = some (.cells #[v] 51 (0, 0)) := (hgrow.block g (by simp; omega) (fun e => HN.out e.symm)).trans (blk_alloc HB.out _)
    have hc9 : w2.cell? ⟨g, 0, none⟩ = some v := (blk_cell hb9 0).trans rfl
    have hf9 := blk_free hb9 0
    have HR := Lib.hid (isW_put (w := w) (xs := xs) (ys := [1]) (blk_alloc HB.out _) HBG.out HN.out hgrow hown2 ((Keeps.refl _ _).alloc _) (own_five (hown.alloc _)))
    obtain ⟨A, c, rfl, _⟩ := own_slice hown2
    clear hown hown2 hgrow hb9 hcell
    go_wp2
    go_end0
    exact ⟨rfl, HR.out⟩
end Go.Proofs.Ytnafeapbglflnaa
