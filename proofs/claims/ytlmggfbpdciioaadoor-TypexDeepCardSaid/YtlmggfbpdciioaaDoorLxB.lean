/- lex: the words. -/
import Derived.Test.YtlmggfbpdciioaaDoorLxA
import Derived.Test.YtlmggfbpdciioaaDoorSMap
import Derived.Lib.LaidTab
namespace Go.Proofs.YtlmggfbpdciioaaDoor
open Go.RowKit
set_option linter.unusedVariables false

/-- The table of layout lies where it lay. -/
def Tab (w : World) : Prop := Lib.TabIs Tryd.prog w "strings.asciiSpace" .u8 Lib.asciiSpaceTab
theorem gTab : Tryd.prog.globalNamed "strings.asciiSpace" = some 0 := by kernel_rfl
theorem Tab.lt {w : World} (h : Tab w) : 0 < w.heap.size := by
  unfold Tab Lib.TabIs World.var? at h
  rw [gTab] at h
  rcases Nat.lt_or_ge 0 w.heap.size with hl | hl
  · exact hl
  · simp [show w.heap[0]? = none from Array.getElem?_eq_none hl] at h
theorem Tab.same {w w' : World} (h : Tab w) (he : w'.heap[0]? = w.heap[0]?) : Tab w' := by
  unfold Tab Lib.TabIs World.var? at *
  simp only [gTab, Option.bind_some] at *
  rw [he]
  exact h
theorem Tab.later {w w' : World} (h : Tab w) (hb : Below w.heap.size w w') : Tab w' := h.same (hb.block 0 h.lt)
theorem Tab.alloc {w : World} (h : Tab w) (o : Obj) : Tab (w.alloc o) := h.later ((Below.refl _ _).alloc (Nat.le_refl _) o)

def wordsText : ByteArray := ⟨([112, 97, 99, 107, 97, 103, 101, 32, 105, 109, 112, 111, 114, 116, 32, 116, 121, 112, 101, 32, 115, 116, 114, 117, 99, 116, 32, 105, 110, 116, 101, 114, 102, 97, 99, 101, 32, 102, 117, 110, 99, 32, 108, 101, 116, 32, 105, 102, 32, 101, 108, 115, 101, 32, 102, 111, 114, 32, 114, 101, 116, 117, 114, 110, 32, 110, 101, 119, 32, 116, 114, 117, 101, 32, 102, 97, 108, 115, 101, 32, 105, 110, 116, 32, 98, 111, 111, 108, 32, 116, 101, 120, 116] : List UInt8).toArray⟩
theorem fields_words : Lib.fields wordsText.data.toList = wordsL := by decide +kernel
def isWordF (j : Nat) (x : List UInt8) : Option Value := if x ∈ wordsL.take j then some (.bool true) else none
theorem isWordF_zero : isWordF 0 = fun _ => none := by funext x; simp [isWordF]
theorem isWordF_all (x : List UInt8) : isWordF 17 x = if wordB x then some (.bool true) else none := by
  unfold isWordF wordB
  rw [List.take_of_length_le (by decide)]
  simp
theorem isWordF_succ (j : Nat) (hj : j < 17) (y : List UInt8) (hy : wordsL[j]? = some y) : isWordF (j + 1) = fun x => if x = y then some (.bool true) else isWordF j x := by
  funext x
  unfold isWordF
  rw [List.take_add_one, hy]
  by_cases h : x = y
  · simp [h]
  · simp [h]

theorem words_any (w : World) (ht : Tab w) : Calls Tryd.prog 29 #[] w fun e w' => ∃ b, e = .returned (.map (some b)) ∧ w.heap.size ≤ b ∧ SMap Tryd.prog 9 w' b 17 (isWordF 17) ∧ Below w.heap.size w w' := by
  have hF := Tryd.strings_Fields wordsText (w.alloc (.map #[] 0)) (by decide) (by
    intro j b hb
    have : ∀ b ∈ wordsText.data.toList, b.toNat < 128 := by decide +kernel
    exact this b (List.mem_of_getElem? hb)) (ht.alloc _)
  rw [fields_words, show wordsL.length = 17 from rfl] at hF
  have hm := @run_makeMap Tryd.prog
  have HF := Lib.hid hF
  clear hF
  go_enter Tryd.func29, Tryd.ntmps29
  go_wp2_with (fail)
  refine HF.out.mono ?_
  rintro e w' ⟨rfl, rfl⟩
  clear HF
  go_wp2_with (fail)
  obtain ⟨B, hB⟩ : ∃ B, B = w.heap.size := ⟨_, rfl⟩
  obtain ⟨cs, hcs⟩ : ∃ cs, cs = (wordsL.map fun l => Value.string ⟨l.toArray⟩).toArray := ⟨_, rfl⟩
  obtain ⟨w2, hw2⟩ : ∃ w2, w2 = (w.alloc (.map #[] 0)).alloc (.cells cs 9) := ⟨_, rfl⟩
  have hS : SMap Tryd.prog 9 w2 B 0 (isWordF 0) := by
    rw [hw2, hB, isWordF_zero]
    exact (SMap.made w).alloc _
  have hC : w2.heap[B + 1]? = some (.cells cs 9 (0, 0)) := by
    rw [hw2, hB]
    have := blk_new (w.alloc (.map #[] 0)) (.cells cs 9)
    simpa using this
  have hL : Below B w w2 := by
    rw [hw2, hB]
    exact bel_alloc (bel_alloc (Below.refl _ _) _) _
  rw [← hcs, ← hw2, ← hB]
  have HB := Lib.hid hB
  have HCS := Lib.hid hcs
  have HS := Lib.hid hS
  have HC := Lib.hid hC
  have HL := Lib.hid hL
  clear hw2 hB hcs hS hC hL hm
  go_loopw [7] (fun i wr => ∃ j : Nat, i = .int .i64 (j : Int) ∧ j ≤ 17 ∧ SMap Tryd.prog 9 wr B j (isWordF j) ∧ wr.heap[B + 1]? = some (.cells cs 9 (0, 0)) ∧ Below B w wr) (fun i wr => 17 - (intOf i).toNat)
  case atStart => exact ⟨0, rfl, by omega, HS.out, HC.out, HL.out⟩
  case round =>
    obtain ⟨j, rfl, hj, hS, hC, hL⟩ := hrel
    have HS := Lib.hid hS
    have HC := Lib.hid hC
    have HL := Lib.hid hL
    clear hS hC hL
    by_cases hlt : j < 17
    · obtain ⟨y, hy⟩ : ∃ y, wordsL[j]? = some y := ⟨_, List.getElem?_eq_getElem hlt⟩
      have hc : wr.cell? ⟨B + 1, j, none⟩ = some (.string ⟨y.toArray⟩) := by
        rw [blk_cell HC.out, HCS.out]
        simp [hy]
      have hys : (⟨y.toArray⟩ : ByteArray).size ≤ maxLen := by
        have h9 : ∀ y ∈ wordsL, y.length ≤ 9 := by decide
        have := h9 y (List.mem_of_getElem? hy)
        simp only [maxLen]
        show y.toArray.size ≤ _
        simp only [List.size_toArray]
        omega
      have HY := Lib.hid hy
      have HYS := Lib.hid hys
      clear hy hys
      go_wp2_with (at_mapUpdate; refine wpList_put_smap rfl _ _ _ 50 rfl 9 4 Tryd.underlying9 Tryd.underlying50 B j (isWordF j) rfl HS.out (by simp only [maxLen]; omega) ⟨y.toArray⟩ HYS.out (.bool true) rfl rfl ?_; intro w1 hS1 hg1)
      have HS1 := Lib.hid hS1
      have HG1 := Lib.hid hg1
      clear hS1 hg1
      go_wp2
      go_roundw
      case rel =>
        refine ⟨j + 1, by go_num, by omega, ?_, ?_, ?_⟩
        · rw [isWordF_succ j hlt y HY.out]
          exact HS1.out
        · exact (HG1.out.block (B + 1) (blk_lt HC.out) (by simp)).trans HC.out
        · exact HL.out.grown HG1.out (by have := HL.out.size; have := HB.out; omega) (fun k hk => by cases hk; exact Nat.le_refl _)
      case measure => simp [intOf]; omega
    · have hj17 : j = 17 := by omega
      subst hj17
      clear hlt hj
      go_wp2
      go_ret
      have hb := HB.out
      exact ⟨B, rfl, by omega, HS.out, by rw [← hb]; exact HL.out⟩
end Go.Proofs.YtlmggfbpdciioaaDoor
