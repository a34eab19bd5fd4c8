/- lex: the iterator of tokens. -/
import Derived.Test.YtlmggfbpdciioaaDoorLxE
import Derived.RangeFuncNested
import Derived.RangeFuncBox
import Derived.RangeFuncBound
import Derived.RangeFuncCalls
import Derived.RangeFuncLeaves
import Derived.Shelf.Abstract
import Derived.Shelf.RegionOpen
import Derived.OwnWalkIn
import Derived.TacticsInMore
import Derived.LoopNIn
import Derived.LoopIn
import Derived.Maps.AppendAt
import Derived.Maps.OwnIn
namespace Go.Proofs.YtlmggfbpdciioaaDoor
open Go.RowKit Go.Shelf
set_option linter.unusedVariables false
attribute [local go_sem] Oper.semAt_some

theorem token_any (s : ByteArray) (hs : s.size ≤ 9223372036854775806) (a : Nat) (ha : a < s.size) (b : Nat) (w : World) (hS : SMap Tryd.prog 9 w b 17 (isWordF 17)) :
    Calls Tryd.prog 38 #[.string s, .int .i64 (a : Int), .map (some b)] w (TokPost (tokC s[a] (s.data.toList.drop (a + 1))) a w) := by
  cases hl : letterB s[a]
  · cases hd : digitB s[a]
    · by_cases h34 : s[a] = 34
      · exact token_quote s hs a ha b w hl hd h34
      · exact token_sym s hs a ha b w hl hd h34
    · exact token_digit s hs a ha b w hl hd
  · exact token_letter s hs a ha b w hS hl

/-- What the iterator hands out: a token, and what is wrong. -/
structure It where
  kd : Nat
  at_ : Nat
  en : Nat
  tx : ByteArray
  da : Nat
  dc : Nat
def itT (x : It) : Value := .agg #[.int .i64 (x.kd : Int), .int .i64 (x.at_ : Int), .int .i64 (x.en : Int), .string x.tx]
def itD (x : It) : Value := .agg #[.int .i64 (x.da : Int), .int .i64 (x.dc : Int)]
def encs (x : It) : Array Value := #[itT x, itD x]
def good (s : ByteArray) (t : Tk) : It := ⟨t.kd, t.at_, t.en, s.extract t.at_ t.en, 0, 0⟩
/-- All that a text gives. -/
def Full (s : ByteArray) (T : List Tk) (e : Option (Nat × Nat)) (xs : List It) : Prop :=
  (e = none ∧ xs = T.map (good s)) ∨ ∃ v : It, e = some (v.da, v.dc) ∧ xs = T.map (good s) ++ [v]

/-- The block of the row that the box bo points to. -/
def rowAt (bo : Nat) (W : World) : Option Nat := match W.heap[bo]? with
  | some (.cells cs _ _) => match cs[0]? with
    | some (Value.slice (some a) _ _) => some a.block
    | _ => none
  | _ => none
theorem rowAt_same {bo : Nat} {W W' : World} (h : W'.heap[bo]? = W.heap[bo]?) : rowAt bo W' = rowAt bo W := by unfold rowAt; rw [h]

def objKept (o : Obj) : Prop := o.isCells = true ∨ o.isWalk = true
/-- What a round keeps: all but the caller's variables, and its row. -/
structure Kp (bo bw : Nat) (A B : World) : Prop where
  size : A.heap.size ≤ B.heap.size
  keep : ∀ k o, A.heap[k]? = some o → objKept o → k ≠ bo → k ≠ bw → rowAt bo A ≠ some k → B.heap[k]? = some o
  row : rowAt bo B = rowAt bo A ∨ ∀ g, rowAt bo B = some g → A.heap.size ≤ g ∧ g < B.heap.size
theorem Kp.refl (bo bw : Nat) (A : World) : Kp bo bw A A := ⟨Nat.le_refl _, fun _ _ h _ _ _ _ => h, .inl rfl⟩
theorem lt_of_heap {A : World} {k : Nat} {o : Obj} (h : A.heap[k]? = some o) : k < A.heap.size := (Array.getElem?_eq_some_iff.1 h).1
theorem Kp.trans {bo bw : Nat} {A B C : World} (h : Kp bo bw A B) (k : Kp bo bw B C) : Kp bo bw A C := by
  refine ⟨Nat.le_trans h.size k.size, fun i o hi ho h1 h2 h3 => k.keep i o (h.keep i o hi ho h1 h2 h3) ho h1 h2 ?_, ?_⟩
  · rcases h.row with hr | hr
    · rw [hr]; exact h3
    · intro hg
      have := hr _ hg
      have := lt_of_heap hi
      omega
  · rcases k.row with hk | hk
    · rcases h.row with hr | hr
      · exact .inl (hk.trans hr)
      · refine .inr fun g hg => ?_
        rw [hk] at hg
        have := hr g hg
        have := k.size
        omega
    · refine .inr fun g hg => ?_
      have := hk g hg
      have := h.size
      omega
theorem Kp.put {bo bw : Nat} {w : World} (hbo : bo < w.heap.size) (W : World) (l : Nat) (o o' : Obj) (hl : w.heap.size ≤ l) (h : W.heap[l]? = some o) (hc : o.isCells = false) (hw : o.isWalk = false) : Kp bo bw W (W.putObj l o') := by
  have hg := grownBy_putObj' W l o'
  refine ⟨hg.size, fun k x hk hx _ _ _ => (hg.block k (lt_of_heap hk) (fun e => ?_)).trans hk, .inl (rowAt_same ?_)⟩
  · injection e with e
    subst e
    rw [h] at hk
    injection hk with hk
    subst hk
    rcases hx with hx | hx
    · rw [hc] at hx; cases hx
    · rw [hw] at hx; cases hx
  · rcases Nat.lt_or_ge bo W.heap.size with hb | hb
    · exact hg.block bo hb (fun e => by injection e with e; omega)
    · have := lt_of_heap h
      omega
theorem grown_of_below {A B : World} (h : Below A.heap.size A B) : A.grownBy B none := ⟨h.os, h.tape, h.output, h.size, fun k hk _ => h.block k hk⟩
theorem abides_below {β : Type} {B : Nat} {J : β → World → Prop} (h : AbidesFrom B J) {s : β} {X Y : World} (hJ : J s X) (hb : Below X.heap.size X Y) : J s Y := h s X Y none hJ (grown_of_below hb) (fun r e => by cases e)

/-- tokens(s): the text is boxed. -/
theorem tokens_in (n : Nat) (s : ByteArray) (w : World) :
    CallsIn Fence.wide n Tryd.prog 27 #[.string s] w fun e w' => e = .returned (.func (.func 36) #[] #[.pointer (some ⟨w.heap.size, 0, none⟩)]) ∧ w' = w.alloc (.cells #[.string s] 9) := by
  refine callsIn_of_wp Tryd.func27 rfl trivial ?_ rfl
  simp only [Tryd.ntmps27, List.size_toArray, List.length_cons, List.length_nil, Nat.reduceAdd, Nat.reduceSub, Array.replicate_succ, Array.replicate_zero, List.push_toArray, List.append_toArray, List.nil_append, List.cons_append]
  gi_wp2
  go_ret
  exact ⟨rfl, rfl⟩

/-- The row that the caller's box points to is newer than nm. -/
def RowNew (bo nm : Nat) (W : World) : Prop := nm ≤ W.heap.size ∧ ∀ g, rowAt bo W = some g → nm ≤ g ∧ g < W.heap.size
theorem RowNew.kp {bo bw nm : Nat} {A B : World} (h : RowNew bo nm A) (k : Kp bo bw A B) : RowNew bo nm B := by
  refine ⟨Nat.le_trans h.1 k.size, fun g hg => ?_⟩
  rcases k.row with hr | hr
  · rw [hr] at hg
    have := h.2 g hg
    have := k.size
    omega
  · have := hr g hg
    have := h.1
    omega
theorem RowNew.below {bo nm : Nat} {A B : World} (h : RowNew bo nm A) (hbo : bo < nm) (hb : Below A.heap.size A B) : RowNew bo nm B := by
  refine ⟨Nat.le_trans h.1 hb.size, fun g hg => ?_⟩
  rw [rowAt_same (hb.block bo (by have := h.1; omega))] at hg
  have := h.2 g hg
  have := hb.size
  omega

set_option maxRecDepth 100000 in
set_option maxHeartbeats 2000000 in
theorem toks_stops (n : Nat) (hn : 1 ≤ n) (s : ByteArray) (hs : s.size ≤ 9223372036854775806) (bs bo bw : Nat) (w : World) (hbs : w.heap[bs]? = some (.cells #[.string s] 9 (0, 0))) (hbo : bo < w.heap.size) (h1 : bs ≠ bo) (h2 : bs ≠ bw)
    (hbw : bw < w.heap.size) (hr : rowAt bo w = none) (ht : Tab w) (T : List Tk) (e : Option (Nat × Nat)) (hL : Lx 0 0 s.data.toList T e) :
    SeqStopsK Fence.wide n Tryd.prog 36 #[.pointer (some ⟨bs, 0, none⟩)] encs (Kp bo bw) (Full s T e) (fun pre => ∃ xs, Full s T e xs ∧ pre <+: xs) 4002 w := fun l J Jx W hW hJ hJx hY h0 => by
  have hbW := (hW.block bs (blk_lt hbs)).trans hbs
  have hrW := (rowAt_same (hW.block bo hbo)).trans hr
  have htW := ht.later hW
  refine callsIn_of_wp Tryd.func36 rfl trivial ?_ rfl
  simp only [Tryd.ntmps36, List.size_toArray, List.length_cons, List.length_nil, Nat.reduceAdd, Nat.reduceSub, Array.replicate_succ, Array.replicate_zero, List.push_toArray, List.append_toArray, List.nil_append, List.cons_append]
  have HC := Lib.hid (words_any W htW)
  have HB := Lib.hid hbW
  have HR := Lib.hid hrW
  have hsz := hW.size
  clear hbW hrW
  obtain ⟨a0, ha0⟩ : ∃ a0, a0 = 0 + skipN false s.data.toList := ⟨_, rfl⟩
  have hk0 : ∀ w, Calls Tryd.prog 37 #[.string s, .int .i64 0] w fun e w' => e = .returned (.int .i64 (a0 : Int)) ∧ w' = w := fun w => by
    have := skip_any s hs 0 (Nat.zero_le _) w
    rw [List.drop_zero, ← ha0] at this
    exact this
  have HK0 := Lib.hid hk0
  have HA0 := Lib.hid ha0
  clear hk0 ha0
  gi_wp2_with (first | (refine ⟨trivial, ?_⟩; gi_at_call 29; refine (callsIn_wide.2 HC.out).mono ?_; rintro e w1 ⟨b, rfl, hb, hS, hB1⟩; have hc1 := (blk_cell (blk_later hB1 HB.out) 0).trans rfl) | (refine ⟨trivial, ?_⟩; gi_at_call 37; refine (callsIn_wide.2 (HK0.out _)).mono ?_; rintro e w' ⟨rfl, rfl⟩))
  have hS' : SMap Tryd.prog 9 w' b 17 (isWordF 17) := hS
  obtain ⟨nm, hnm⟩ : ∃ nm, nm = w'.heap.size := ⟨_, rfl⟩
  have hN0 : RowNew bo nm w' := by
    refine ⟨by omega, fun g hg => ?_⟩
    rw [rowAt_same (hB1.block bo (by omega)), HR.out] at hg
    cases hg
  have hJ0 : J [] w' := abides_below hJ h0 hB1
  have hb0 : w'.heap[bs]? = some (.cells #[.string s] 9 (0, 0)) := blk_later hB1 HB.out
  have hbn : b < nm := by have := hS'.lt; omega
  have hbsn : bs < nm := by have := blk_lt hb0; omega
  have hbon : bo < nm := by have := hB1.size; omega
  have hbwn : bw < nm := by have := hB1.size; omega
  have hbb : b ≠ bo ∧ b ≠ bw := by omega
  have hlx : Lx 0 0 (s.data.toList.drop 0) T e := hL
  have hp0 : a0 = 0 + skipN false (s.data.toList.drop 0) := HA0.out
  have HS := Lib.hid hS'
  have HJ0 := Lib.hid hJ0
  have HB0 := Lib.hid hb0
  have HN0 := Lib.hid hN0
  have HLX := Lib.hid hlx
  have HP0 := Lib.hid hp0
  have hWn : W.heap.size ≤ nm := by have := hB1.size; omega
  have HBB := Lib.hid hbb
  clear hS hS' hnm hN0 hJ0 hb0 hlx hp0 hc1 HC HR HB HK0 HA0 hB1 hbb
  gi_loopw [4, 5] (fun c i wr => ∃ (j a p : Nat) (pre : List It) (T0 T' : List Tk), c = .int .i64 (j : Int) ∧ i = .int .i64 (p : Int) ∧ p = a + skipN false (s.data.toList.drop a) ∧ a ≤ s.size ∧ Lx j a (s.data.toList.drop a) T' e ∧
      T = T0 ++ T' ∧ pre = T0.map (good s) ∧ j = T0.length ∧ J pre wr ∧ wr.heap[bs]? = some (.cells #[.string s] 9 (0, 0)) ∧ SMap Tryd.prog 9 wr b 17 (isWordF 17) ∧ RowNew bo nm wr)
    (fun _ i _ => s.size - (intOf i).toNat)
  case atStart => exact ⟨0, 0, a0, [], [], T, rfl, rfl, HP0.out, Nat.zero_le _, HLX.out, rfl, rfl, rfl, HJ0.out, HB0.out, HS.out, HN0.out⟩
  case round =>
    obtain ⟨j, a, p, pre, T0, T', rfl, rfl, hp, ha, hLx, hT, hpre, hj, hJr, hbr, hSr, hNr⟩ := hrel
    have hple : p ≤ s.size := by
      have := skipN_le false (s.data.toList.drop a)
      rw [List.length_drop, len_toList] at this
      omega
    have hdp : (s.data.toList.drop a).drop (skipN false (s.data.toList.drop a)) = s.data.toList.drop p := by rw [List.drop_drop, hp]
    have hj4 : j < 4002 := by
      have := lx_len hL
      rw [hT, List.length_append] at this
      omega
    have hprel : pre.length = j := by rw [hpre, List.length_map, hj]
    have hcell := (blk_cell hbr 0).trans rfl
    have HJR := Lib.hid hJr
    have HBR := Lib.hid hbr
    have HSR := Lib.hid hSr
    have HNR := Lib.hid hNr
    have HPRE := Lib.hid hpre
    have HPREL := Lib.hid hprel
    have HJJ := Lib.hid hj
    have HTT := Lib.hid hT
    have HPP := Lib.hid hp
    have HY := Lib.hid hY
    clear hJr hbr hSr hNr hpre hprel hj hT hY
    by_cases hlt : p < s.size
    · rw [drop_at s p hlt] at hdp
      generalize hr3 : tokC s[p] (s.data.toList.drop (p + 1)) = r3 at *
      have hlen : pre.length < 4002 := by rw [HPREL.out]; exact hj4
      have hTK := Lib.hid (token_any s hs p hlt b wr HSR.out)
      rw [hr3] at hTK
      by_cases hbad : lexErr j r3.2.2 = 0
      · have h4 : (j : Int) < 4000 := by
          unfold lexErr at hbad
          split at hbad
          · cases hbad
          · omega
        have hw0 : r3.2.2 = 0 := by
          unfold lexErr at hbad
          rw [if_neg (by omega)] at hbad
          exact hbad
        have hlenr := tok_len_le s[p] (s.data.toList.drop (p + 1)) (by rw [hr3]; exact hw0)
        have hposr := tok_len_pos s[p] (s.data.toList.drop (p + 1))
        rw [hr3] at hlenr hposr
        rw [← drop_at s p hlt, List.length_drop, len_toList] at hlenr
        obtain ⟨en, hen⟩ : ∃ en, en = p + r3.2.1 := ⟨_, rfl⟩
        have henl : en ≤ s.size := by omega
        have henp : p < en := by omega
        obtain ⟨T'', e'', hL''⟩ := lx_total (j + 1) en (s.data.toList.drop en)
        have hTe : T' = ⟨r3.1, p, en⟩ :: T'' ∧ e = e'' := by
          have hx := Lx.tok (n := j) (at_ := a) (l := s.data.toList.drop a) (T := T'') (e := e'') hdp (by omega) (by rw [hr3]; exact hw0) (by
            rw [hr3, ← drop_at s p hlt, List.drop_drop, ← hp, ← hen]
            exact hL'')
          have := lx_det hLx hx
          rw [hr3, ← hp, ← hen] at this
          exact this
        obtain ⟨rfl, rfl⟩ := hTe
        obtain ⟨q, hq⟩ : ∃ q, q = en + skipN false (s.data.toList.drop en) := ⟨_, rfl⟩
        have hSK := fun w => skip_any s hs en henl w
        rw [← hq] at hSK
        have hqen : en ≤ q := by omega
        have HQ := Lib.hid hq
        have HSK := Lib.hid hSK
        have HL2 := Lib.hid hL''
        have hw0' : ((r3.2.2 : Int) != 0) = false := by rw [hw0]; rfl
        have HEN := Lib.hid hen
        have HW0 := Lib.hid hw0
        clear hw0 hbad hp hdp hLx hr3 hlenr hposr hq hSK hL'' hen
        gi_wp2_with (refine ⟨trivial, ?_⟩; gi_at_call 38; refine (callsIn_wide.2 hTK.out).mono ?_; rintro e2 w2 ⟨kd, at_, en', rfl, hk, hB2⟩; unfold tkV; obtain ⟨hk1, hk2, hk3⟩ := hk HW0.out; rw [← HEN.out] at hk3; have hk2' := hk2.symm; have hk3' := hk3.symm; clear hk2 hk3; subst hk1; subst hk2'; subst hk3'; clear hk; have hc2 := (blk_cell (blk_later hB2 HBR.out) 0).trans rfl; have hc3 := (blk_cell (blk_alloc (blk_later hB2 HBR.out) (.cells #[.int .i64 (r3.1 : Int), .int .i64 (p : Int), .int .i64 (en : Int), .string ByteArray.empty] 31)) 0).trans rfl; have hf2 := HY.out pre ⟨r3.1, p, en, s.extract p en, 0, 0⟩ (w2.alloc (.cells #[.int .i64 (r3.1 : Int), .int .i64 (p : Int), .int .i64 (en : Int), .string (s.extract p en)] 31)) (abides_below hJ HJR.out (bel_alloc hB2 _)) hlen; have HB2 := Lib.hid hB2; clear hB2; obtain ⟨fn, tmps, assign, body, hy, hR⟩ := hf2; change (Instr.yield l #[.agg #[.int .i64 (r3.1 : Int), .int .i64 (p : Int), .int .i64 (en : Int), .string (s.extract p en)], .agg #[.int .i64 0, .int .i64 0]]).run Tryd.prog (w2.alloc (.cells #[.int .i64 (r3.1 : Int), .int .i64 (p : Int), .int .i64 (en : Int), .string (s.extract p en)] 31)) = _ at hy)
        refine hR.mono ?_
        have hB3 := bel_alloc HB2.out (.cells #[.int .i64 (r3.1 : Int), .int .i64 (p : Int), .int .i64 (en : Int), .string (s.extract p en)] 31)
        have hN3 := HNR.out.below hbon hB3
        have hro := rowAt_same (hB3.block bo (by have := HNR.out.1; omega))
        have hrb : ∀ k, k < nm → rowAt bo (w2.alloc (.cells #[.int .i64 (r3.1 : Int), .int .i64 (p : Int), .int .i64 (en : Int), .string (s.extract p en)] 31)) ≠ some k := by
          intro k hk hg
          have := (hN3.2 k hg).1
          omega
        have hrt : rowAt bo (w2.alloc (.cells #[.int .i64 (r3.1 : Int), .int .i64 (p : Int), .int .i64 (en : Int), .string (s.extract p en)] 31)) ≠ some w2.heap.size := by
          intro hg
          rw [hro] at hg
          have := (HNR.out.2 _ hg).2
          have := HB2.out.size
          omega
        have hw2n : nm ≤ w2.heap.size := Nat.le_trans HNR.out.1 HB2.out.size
        have hM3 := (HSR.out.later hB3)
        obtain ⟨es, clock, hes⟩ := hM3.not_cells
        have HB3 := Lib.hid hB3
        have HN3 := Lib.hid hN3
        have HRB := Lib.hid hrb
        have HRT := Lib.hid hrt
        have HM3 := Lib.hid hM3
        have HES := Lib.hid hes
        have HBS3 := Lib.hid (blk_alloc (blk_later HB2.out HBR.out) (.cells #[.int .i64 (r3.1 : Int), .int .i64 (p : Int), .int .i64 (en : Int), .string (s.extract p en)] 31))
        clear hB3 hN3 hro hrb hrt hM3 hes hc2 hc3 hy
        rintro e2 W' (⟨rfl, hJ', hk⟩ | ⟨rfl, hJx'⟩)
        · have hb4 := hk.keep bs _ HBS3.out (.inl rfl) h1 h2 (HRB.out bs hbsn)
          have ht4 := hk.keep w2.heap.size _ (blk_new w2 _) (.inl rfl) (by omega) (by omega) HRT.out
          have hm4 := hk.keep b _ HES.out (.inr rfl) HBB.out.1 HBB.out.2 (HRB.out b hbn)
          have hS4 := HM3.out.same (hm4.trans HES.out.symm)
          have hN4 := HN3.out.kp hk
          have hcb := (blk_cell hb4 0).trans rfl
          have hct := (blk_cell ht4 2).trans rfl
          have HB4 := Lib.hid hb4
          have HS4 := Lib.hid hS4
          have HN4 := Lib.hid hN4
          have HJ4 := Lib.hid hJ'
          clear hb4 ht4 hm4 hS4 hN4 hJ' hk
          gi_wp2_with (refine ⟨trivial, ?_⟩; gi_at_call 37; refine (callsIn_wide.2 (HSK.out _)).mono ?_; rintro e3 w3 ⟨rfl, rfl⟩)
          go_roundw
          case rel => exact ⟨j + 1, en, q, pre ++ [⟨r3.1, p, en, s.extract p en, 0, 0⟩], T0 ++ [⟨r3.1, p, en⟩], T'', by go_num, rfl, HQ.out, henl, HL2.out, by rw [HTT.out]; simp, by rw [HPRE.out]; simp [good], by rw [HJJ.out]; simp, HJ4.out, HB4.out, HS4.out, HN4.out⟩
          case measure => simp [intOf]; omega
        · gi_wp2
          refine bodyPost_ret (results_none rfl _ _ _) rfl ?_
          refine ⟨⟨_, rfl⟩, .inr ⟨_, ?_, hJx'⟩⟩
          have hpx : pre ++ [⟨r3.1, p, en, s.extract p en, 0, 0⟩] <+: T.map (good s) := by
            rw [HTT.out, HPRE.out]
            exact ⟨T''.map (good s), by simp [good]⟩
          rcases e with _ | ⟨ea, ex⟩
          · exact ⟨_, .inl ⟨rfl, rfl⟩, hpx⟩
          · exact ⟨_, .inr ⟨⟨0, 0, 0, ByteArray.empty, ea, ex⟩, rfl, rfl⟩, hpx.trans (List.prefix_append _ _)⟩
      · have hTe : T' = [] ∧ e = some (p, lexErr j r3.2.2) := by
          have := lx_det hLx (Lx.bad hdp (by rw [hr3]; exact hbad))
          rw [hr3, ← hp] at this
          exact this
        obtain ⟨rfl, rfl⟩ := hTe
        by_cases h4 : (4000 : Int) ≤ (j : Int)
        · have hx6 : lexErr j r3.2.2 = 6 := by unfold lexErr; rw [if_pos (by omega)]
          have HX6 := Lib.hid hx6
          clear hx6 hbad hp hdp hLx hr3
          gi_wp2_with (refine ⟨trivial, ?_⟩; gi_at_call 38; refine (callsIn_wide.2 hTK.out).mono ?_; rintro e2 w2 ⟨kd, at_, en, rfl, hk, hB2⟩; unfold tkV; clear hk; have hc2 := (blk_cell (blk_later hB2 HBR.out) 0).trans rfl; have hf2 := HY.out pre ⟨kd, at_, en, ByteArray.empty, p, 6⟩ (w2.alloc (.cells #[.int .i64 (kd : Int), .int .i64 (at_ : Int), .int .i64 (en : Int), .string ByteArray.empty] 31)) (abides_below hJ HJR.out (bel_alloc hB2 _)) hlen; clear hB2; obtain ⟨fn, tmps, assign, body, hy, hR⟩ := hf2; change (Instr.yield l #[.agg #[.int .i64 (kd : Int), .int .i64 (at_ : Int), .int .i64 (en : Int), .string ByteArray.empty], .agg #[.int .i64 (p : Int), .int .i64 6]]).run Tryd.prog (w2.alloc (.cells #[.int .i64 (kd : Int), .int .i64 (at_ : Int), .int .i64 (en : Int), .string ByteArray.empty] 31)) = _ at hy)
          refine hR.mono ?_
          have hfull : Full s T (some (p, lexErr j r3.2.2)) (pre ++ [⟨kd, at_, en, ByteArray.empty, p, 6⟩]) :=
            .inr ⟨⟨kd, at_, en, ByteArray.empty, p, 6⟩, by rw [HX6.out], by rw [HTT.out, List.append_nil, HPRE.out]⟩
          rintro e W' (⟨rfl, hJ', hk⟩ | ⟨rfl, hJx'⟩)
          · gi_wp2
            refine bodyPost_ret (results_none rfl _ _ _) rfl ?_
            exact ⟨⟨_, rfl⟩, .inl ⟨_, hfull, hJ'⟩⟩
          · gi_wp2
            refine bodyPost_ret (results_none rfl _ _ _) rfl ?_
            exact ⟨⟨_, rfl⟩, .inr ⟨_, ⟨_, hfull, List.prefix_rfl⟩, hJx'⟩⟩
        · have hx6 : lexErr j r3.2.2 = r3.2.2 := by unfold lexErr; rw [if_neg (by omega)]
          have hne : ((r3.2.2 : Int) != 0) = true := by
            rw [hx6] at hbad
            simpa using hbad
          have HX6 := Lib.hid hx6
          clear hx6 hbad hp hdp hLx hr3
          gi_wp2_with (refine ⟨trivial, ?_⟩; gi_at_call 38; refine (callsIn_wide.2 hTK.out).mono ?_; rintro e2 w2 ⟨kd, at_, en, rfl, hk, hB2⟩; unfold tkV; clear hk; have hc2 := (blk_cell (blk_later hB2 HBR.out) 0).trans rfl; have hf2 := HY.out pre ⟨kd, at_, en, ByteArray.empty, p, r3.2.2⟩ (w2.alloc (.cells #[.int .i64 (kd : Int), .int .i64 (at_ : Int), .int .i64 (en : Int), .string ByteArray.empty] 31)) (abides_below hJ HJR.out (bel_alloc hB2 _)) hlen; clear hB2; obtain ⟨fn, tmps, assign, body, hy, hR⟩ := hf2; change (Instr.yield l #[.agg #[.int .i64 (kd : Int), .int .i64 (at_ : Int), .int .i64 (en : Int), .string ByteArray.empty], .agg #[.int .i64 (p : Int), .int .i64 (r3.2.2 : Int)]]).run Tryd.prog (w2.alloc (.cells #[.int .i64 (kd : Int), .int .i64 (at_ : Int), .int .i64 (en : Int), .string ByteArray.empty] 31)) = _ at hy)
          refine hR.mono ?_
          have hfull : Full s T (some (p, lexErr j r3.2.2)) (pre ++ [⟨kd, at_, en, ByteArray.empty, p, r3.2.2⟩]) :=
            .inr ⟨⟨kd, at_, en, ByteArray.empty, p, r3.2.2⟩, by rw [HX6.out], by rw [HTT.out, List.append_nil, HPRE.out]⟩
          rintro e W' (⟨rfl, hJ', hk⟩ | ⟨rfl, hJx'⟩)
          · gi_wp2
            refine bodyPost_ret (results_none rfl _ _ _) rfl ?_
            exact ⟨⟨_, rfl⟩, .inl ⟨_, hfull, hJ'⟩⟩
          · gi_wp2
            refine bodyPost_ret (results_none rfl _ _ _) rfl ?_
            exact ⟨⟨_, rfl⟩, .inr ⟨_, ⟨_, hfull, List.prefix_rfl⟩, hJx'⟩⟩
    · have hpe : p = s.size := by omega
      subst hpe
      rw [drop_end] at hdp
      have hTe : T' = [⟨0, s.size, s.size⟩] ∧ e = none := by
        have := lx_det hLx (Lx.fin hdp)
        rw [List.length_drop, len_toList] at this
        rw [show a + (s.size - a) = s.size by omega] at this
        exact this
      obtain ⟨rfl, rfl⟩ := hTe
      obtain ⟨fn, tmps, assign, body, hy, hR⟩ := HY.out pre ⟨0, s.size, s.size, ByteArray.empty, 0, 0⟩ wr HJR.out (by rw [HPREL.out]; exact hj4)
      change (Instr.yield l #[.agg #[.int .i64 0, .int .i64 (s.size : Int), .int .i64 (s.size : Int), .string ⟨#[]⟩], .agg #[.int .i64 0, .int .i64 0]]).run Tryd.prog wr = _ at hy
      clear hp hdp hLx
      gi_wp2
      refine hR.mono ?_
      have hfull : Full s T none (pre ++ [⟨0, s.size, s.size, ByteArray.empty, 0, 0⟩]) := by
        refine .inl ⟨rfl, ?_⟩
        rw [HTT.out, List.map_append, ← HPRE.out]
        simp [good]
      rintro e W' (⟨rfl, hJ', hk⟩ | ⟨rfl, hJx'⟩)
      · gi_wp2
        go_end0
        exact ⟨⟨_, rfl⟩, .inl ⟨_, hfull, hJ'⟩⟩
      · gi_wp2
        go_end0
        exact ⟨⟨_, rfl⟩, .inr ⟨_, ⟨_, hfull, List.prefix_rfl⟩, hJx'⟩⟩
end Go.Proofs.YtlmggfbpdciioaaDoor
