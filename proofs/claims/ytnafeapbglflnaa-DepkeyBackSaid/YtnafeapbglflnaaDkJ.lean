/- The document's reader beside depkey's: what each step reads. -/
import Derived.Test.YtnafeapbglflnaaDkF
namespace Go.Proofs.Ytnafeapbglflnaa
open Go.RowKit PRef Go.Proofs.YtnafeapbglflnaaW.PrintWords
set_option linter.unusedVariables false

theorem w64 (n : Int) (h : -9223372036854775808 ≤ n ∧ n ≤ 9223372036854775807) : wrap64 n = n := by unfold wrap64; omega

def RelQ {α : Type} (B : ByteArray) (at_ : Nat) (lost : Bool) (F : ByteArray → Bool → α × ByteArray × Bool) (v : α) (at' : Nat) (lost' : Bool) : Prop :=
  at' ≤ B.size ∧ (lost = true → lost' = true) ∧ (lost = false → lost' = true → (F (B.extract at_ B.size) true).2.2 = false) ∧ (lost = false → lost' = false → F (B.extract at_ B.size) true = (v, B.extract at' B.size, true))

def byteAt (B : ByteArray) (i : Nat) : Nat := (B.data.toList.getD i 0).toNat
theorem byteAt_lt (B : ByteArray) (i : Nat) : byteAt B i < 256 := (B.data.toList.getD i 0).toNat_lt
theorem byteAt_out (B : ByteArray) (i : Nat) (h : B.size ≤ i) : byteAt B i = 0 := by
  unfold byteAt
  rw [List.getD_eq_getElem?_getD, List.getElem?_eq_none (by rw [Array.length_toList]; exact h)]
  rfl
theorem byteAt_in (B : ByteArray) (i : Nat) (h : i < B.size) : bt B i = byteAt B i := by
  unfold bt byteAt
  rw [dif_pos (by rw [Int.toNat_natCast]; exact h), List.getD_eq_getElem?_getD, List.getElem?_eq_getElem (by rw [Array.length_toList]; exact h)]
  simp only [Option.getD_some, Int.toNat_natCast]
  rfl

theorem one_q (B : ByteArray) (hB : B.size ≤ 100000) (a : Nat) (ha : a ≤ B.size) (lost : Bool) :
    quoinref17_Reader_One.f B a lost = some (((byteAt B a : Nat) : Int), B, ((min (a + 1) B.size : Nat) : Int), lost || decide (B.size ≤ a)) := by
  have w1 : wrap64 ((a : Int) + 1) = ((a + 1 : Nat) : Int) := (w64 _ (by omega)).trans (by omega)
  have w2 : wrap64 (((a + 1 : Nat) : Int) - 1) = (a : Int) := (w64 _ (by omega)).trans (by omega)
  unfold quoinref17_Reader_One.f
  rw [w1, w2]
  by_cases h : B.size ≤ a
  · rw [if_pos (by omega), decide_eq_true h, byteAt_out B a h, show min (a + 1) B.size = a by omega]
    simp
  · rw [if_neg (by omega), if_pos (by omega), if_pos (by omega), decide_eq_false h, byteAt_in B a (by omega), show min (a + 1) B.size = a + 1 by omega]
    have hb := byteAt_lt B a
    rw [w64 _ (by omega)]
    simp

def numQ (B : ByteArray) (a : Nat) : Nat := ((byteAt B a * 256 + byteAt B (min (a + 1) B.size)) * 256 + byteAt B (min (a + 2) B.size)) * 256 + byteAt B (min (a + 3) B.size)

theorem num_step (k : Nat) (B : ByteArray) (hB : B.size ≤ 100000) (a : Nat) (ha : a ≤ B.size) (lost : Bool) (acc j : Nat) (hj : j < 4) (hacc : acc < 16777216) :
    quoinref17_Reader_Num.l0 (k + 1) acc j B a lost = quoinref17_Reader_Num.l0 k ((acc * 256 + byteAt B a : Nat) : Int) ((j + 1 : Nat) : Int) B ((min (a + 1) B.size : Nat) : Int) (lost || decide (B.size ≤ a)) := by
  have hb := byteAt_lt B a
  rw [quoinref17_Reader_Num.l0, if_pos (by omega), one_q B hB a ha lost]
  simp only [Option.bind_some]
  rw [w64 (256 * (acc : Int)) (by omega), w64 _ (by omega), w64 _ (by omega)]
  congr 1
  omega

theorem num_q (B : ByteArray) (hB : B.size ≤ 100000) (a : Nat) (ha : a ≤ B.size) (lost : Bool) :
    quoinref17_Reader_Num.f 5 B a lost = some (((numQ B a : Nat) : Int), B, ((min (a + 4) B.size : Nat) : Int), (lost || decide (B.size < a + 4)) || decide (2147483647 < numQ B a)) := by
  have b0 := byteAt_lt B a
  have b1 := byteAt_lt B (min (a + 1) B.size)
  have b2 := byteAt_lt B (min (a + 2) B.size)
  have b3 := byteAt_lt B (min (a + 3) B.size)
  unfold quoinref17_Reader_Num.f
  have e0 := num_step 4 B hB a ha lost 0 0 (by omega) (by omega)
  have e1 := num_step 3 B hB (min (a + 1) B.size) (by omega) (lost || decide (B.size ≤ a)) (0 * 256 + byteAt B a) 1 (by omega) (by omega)
  have m2 : min (min (a + 1) B.size + 1) B.size = min (a + 2) B.size := by omega
  rw [m2] at e1
  have e2 := num_step 2 B hB (min (a + 2) B.size) (by omega) ((lost || decide (B.size ≤ a)) || decide (B.size ≤ min (a + 1) B.size)) ((0 * 256 + byteAt B a) * 256 + byteAt B (min (a + 1) B.size)) 2 (by omega) (by omega)
  have m3 : min (min (a + 2) B.size + 1) B.size = min (a + 3) B.size := by omega
  rw [m3] at e2
  have e3 := num_step 1 B hB (min (a + 3) B.size) (by omega) (((lost || decide (B.size ≤ a)) || decide (B.size ≤ min (a + 1) B.size)) || decide (B.size ≤ min (a + 2) B.size)) (((0 * 256 + byteAt B a) * 256 + byteAt B (min (a + 1) B.size)) * 256 + byteAt B (min (a + 2) B.size)) 3 (by omega) (by omega)
  have m4 : min (min (a + 3) B.size + 1) B.size = min (a + 4) B.size := by omega
  rw [m4] at e3
  refine (e0.trans (e1.trans (e2.trans (e3.trans ?_))))
  have hl : ((((lost || decide (B.size ≤ a)) || decide (B.size ≤ min (a + 1) B.size)) || decide (B.size ≤ min (a + 2) B.size)) || decide (B.size ≤ min (a + 3) B.size)) = (lost || decide (B.size < a + 4)) := by
    cases lost
    · rw [Bool.eq_iff_iff]
      simp only [Bool.or_eq_true, decide_eq_true_eq, Bool.false_eq_true, false_or]
      omega
    · simp
  rw [hl]
  have hn : (((0 * 256 + byteAt B a) * 256 + byteAt B (min (a + 1) B.size)) * 256 + byteAt B (min (a + 2) B.size)) * 256 + byteAt B (min (a + 3) B.size) = numQ B a := by unfold numQ; rw [Nat.zero_mul, Nat.zero_add]
  rw [hn]
  generalize numQ B a = n
  rw [quoinref17_Reader_Num.l0, if_neg (by omega)]
  by_cases h : 2147483647 < n
  · rw [if_pos (by omega), decide_eq_true h]; simp
  · rw [if_neg (by omega), decide_eq_false h]; simp

theorem numQ_lt (B : ByteArray) (a : Nat) : numQ B a < 4294967296 := by
  have b0 := byteAt_lt B a
  have b1 := byteAt_lt B (min (a + 1) B.size)
  have b2 := byteAt_lt B (min (a + 2) B.size)
  have b3 := byteAt_lt B (min (a + 3) B.size)
  unfold numQ
  omega

theorem ext_ext (B : ByteArray) (a c d : Nat) (hd : a + d ≤ B.size) : (B.extract a B.size).extract c d = B.extract (a + c) (a + d) := by
  rw [ByteArray.extract_extract, show min (a + d) B.size = a + d by omega]

theorem ext_size (B : ByteArray) (a : Nat) (ha : a ≤ B.size) : (B.extract a B.size).size = B.size - a := by
  rw [ByteArray.size_extract]
  omega

theorem take_q (B : ByteArray) (a n : Nat) (ha : a ≤ B.size) : takeF (B.extract a B.size) true n = if a + n ≤ B.size then (B.extract a (a + n), B.extract (a + n) B.size, true) else (ByteArray.empty, B.extract a B.size, false) := by
  unfold takeF
  rw [ext_size B a ha]
  by_cases h : a + n ≤ B.size
  · rw [if_pos ⟨rfl, by omega⟩, if_pos h, ext_ext B a 0 n h, ext_ext B a n (B.size - a) (by omega), show a + (B.size - a) = B.size by omega, Nat.add_zero]
  · rw [if_neg (by rintro ⟨_, h2⟩; omega), if_neg h]

theorem ext_list (B : ByteArray) (a n : Nat) (h : a + n ≤ B.size) : (B.extract a (a + n)).data.toList = (List.range n).map fun i => B.data.toList.getD (a + i) 0 := by
  have hlen : B.data.toList.length = B.size := Array.length_toList
  rw [ByteArray.data_extract, Array.toList_extract, List.extract_eq_take_drop]
  apply List.ext_getElem?
  intro i
  rw [List.getElem?_take, List.getElem?_drop, List.getElem?_map]
  by_cases hi : i < n
  · rw [if_pos (by omega), List.getElem?_range hi]
    simp [List.getD_eq_getElem?_getD, Array.getElem?_eq_getElem (show a + i < B.data.size from by have : B.data.size = B.size := rfl; omega)]
  · rw [if_neg (by omega), List.getElem?_eq_none (by simp; omega)]
    rfl

theorem num_rel (B : ByteArray) (a : Nat) (ha : a ≤ B.size) (lost : Bool) : RelQ B a lost numF (numQ B a) (min (a + 4) B.size) ((lost || decide (B.size < a + 4)) || decide (2147483647 < numQ B a)) := by
  have hq : a + 4 ≤ B.size → numOf (B.extract a (a + 4)).data.toList = numQ B a := by
    intro h
    rw [ext_list B a 4 h]
    unfold numQ byteAt
    rw [show min (a + 1) B.size = a + 1 by omega, show min (a + 2) B.size = a + 2 by omega, show min (a + 3) B.size = a + 3 by omega]
    simp [List.range, List.range.loop, numOf]
  refine ⟨by omega, by rintro rfl; simp, ?_, ?_⟩
  · rintro rfl h
    unfold numF
    rw [take_q B a 4 ha]
    by_cases h4 : a + 4 ≤ B.size
    · rw [if_pos h4]
      simp only
      rw [hq h4]
      rw [decide_eq_false (show ¬ B.size < a + 4 by omega)] at h
      simp only [Bool.or_false, Bool.false_or, decide_eq_true_eq] at h
      simp
      omega
    · rw [if_neg h4]
      rfl
  · rintro rfl h
    simp only [Bool.false_or, Bool.or_eq_false_iff, decide_eq_false_iff_not] at h
    obtain ⟨h1, h2⟩ := h
    unfold numF
    rw [take_q B a 4 ha, if_pos (by omega)]
    simp only
    rw [hq (by omega), decide_eq_true (show numQ B a ≤ 2147483647 by omega), show min (a + 4) B.size = a + 4 by omega]
    rfl

theorem takeF_false (b : ByteArray) (n : Nat) : takeF b false n = (ByteArray.empty, b, false) := by
  unfold takeF
  rw [if_neg (by simp)]
theorem numF_false (b : ByteArray) : (numF b false).2.2 = false := by unfold numF; rw [takeF_false]; rfl
theorem rtextF_false (b : ByteArray) (f : Bool) (h : (numF b f).2.2 = false) : (rtextF b f).2.2 = false := by unfold rtextF; rw [h, takeF_false]
theorem rtextF_false' (b : ByteArray) : (rtextF b false).2.2 = false := rtextF_false b false (numF_false b)
theorem flagF_false (b : ByteArray) : (flagF b false).2.2 = false := by unfold flagF; rw [takeF_false]; rfl
theorem manyF_false (b : ByteArray) : (manyF b false).2.2 = false := by unfold manyF; rw [numF_false]; rfl

theorem num_step_q (B : ByteArray) (hB : B.size ≤ 100000) (a : Nat) (ha : a ≤ B.size) (lost : Bool) : ∃ n a' lost', quoinref17_Reader_Num.f 5 B a lost = some (((n : Nat) : Int), B, ((a' : Nat) : Int), lost') ∧ n < 4294967296 ∧ RelQ B a lost numF n a' lost' :=
  ⟨_, _, _, num_q B hB a ha lost, numQ_lt B a, num_rel B a ha lost⟩

theorem text_q (B : ByteArray) (hB : B.size ≤ 100000) (a : Nat) (ha : a ≤ B.size) (lost : Bool) : ∃ s a' lost', quoinref17_Reader_Text.f 5 B a lost = some (s, B, ((a' : Nat) : Int), lost') ∧ RelQ B a lost rtextF s a' lost' := by
  obtain ⟨n, a1, l1, e1, hn, h1, h2, h3, h4⟩ := num_step_q B hB a ha lost
  unfold quoinref17_Reader_Text.f
  rw [e1]
  simp only [Option.bind_some]
  cases l1 with
  | true =>
    rw [if_pos rfl]
    exact ⟨_, a1, true, rfl, h1, fun _ => rfl, fun hl _ => rtextF_false _ _ (h3 hl rfl), fun _ h => by cases h⟩
  | false =>
    obtain rfl : lost = false := by cases lost; rfl; exact absurd (h2 rfl) (by simp)
    have e2 := h4 rfl rfl
    have w1 : wrap64 ((B.size : Int) - a1) = ((B.size - a1 : Nat) : Int) := (w64 _ (by omega)).trans (by omega)
    have w2 : wrap64 ((a1 : Int) + n) = ((a1 + n : Nat) : Int) := (w64 _ (by omega)).trans (by omega)
    have w3 : wrap64 (((a1 + n : Nat) : Int) - n) = (a1 : Int) := (w64 _ (by omega)).trans (by omega)
    rw [if_neg (by simp), w1]
    have e3 : rtextF (B.extract a B.size) true = takeF (B.extract a1 B.size) true n := by unfold rtextF; rw [e2]
    by_cases hgt : B.size - a1 < n
    · rw [if_pos (by omega)]
      refine ⟨_, a1, true, rfl, h1, fun _ => rfl, fun _ _ => ?_, fun _ h => by cases h⟩
      rw [e3, take_q B a1 n h1, if_neg (by omega)]
    · rw [if_neg (by omega), w2, w3, if_pos (by omega), if_pos (by omega), if_pos (by omega)]
      refine ⟨_, a1 + n, false, rfl, by omega, (fun h => by cases h), (fun _ h => by cases h), fun _ _ => ?_⟩
      rw [e3, take_q B a1 n h1, if_pos (by omega)]
      simp only [Int.toNat_natCast]

theorem many_q (B : ByteArray) (hB : B.size ≤ 100000) (a : Nat) (ha : a ≤ B.size) (lost : Bool) : ∃ n a' lost', quoinref17_Reader_many.f 5 B a lost = some (((n : Nat) : Int), B, ((a' : Nat) : Int), lost') ∧ n < 4294967296 ∧ RelQ B a lost manyF n a' lost' := by
  obtain ⟨n, a1, l1, e1, hn, h1, h2, h3, h4⟩ := num_step_q B hB a ha lost
  unfold quoinref17_Reader_many.f
  rw [e1]
  simp only [Option.bind_some]
  by_cases hgt : 5000 < n
  · rw [if_pos (by omega)]
    refine ⟨n, a1, true, rfl, hn, h1, fun _ => rfl, fun hl _ => ?_, fun _ h => by cases h⟩
    unfold manyF
    cases l1 with
    | true => rw [h3 hl rfl]; rfl
    | false => rw [h4 hl rfl, decide_eq_false (show ¬ n ≤ 5000 by omega)]; simp
  · rw [if_neg (by omega)]
    refine ⟨n, a1, l1, rfl, hn, h1, h2, fun hl h => ?_, fun hl h => ?_⟩
    · unfold manyF
      rw [h3 hl h]
      rfl
    · unfold manyF
      rw [h4 hl h, decide_eq_true (show n ≤ 5000 by omega)]
      rfl

theorem flag_q (B : ByteArray) (hB : B.size ≤ 100000) (a : Nat) (ha : a ≤ B.size) (lost : Bool) : ∃ b a' lost', quoinref17_Reader_flag.f B a lost = some (b, B, ((a' : Nat) : Int), lost') ∧ RelQ B a lost flagF b a' lost' := by
  unfold quoinref17_Reader_flag.f
  rw [one_q B hB a ha lost]
  simp only [Option.bind_some]
  have hb := byteAt_lt B a
  have hex : a < B.size → (B.extract a (a + 1)).data.toList = [B.data.toList.getD a 0] := by
    intro h
    rw [ext_list B a 1 (by omega)]
    simp [List.range, List.range.loop]
  have hc : ∀ m : Nat, m < 256 → (decide ([B.data.toList.getD a 0] = [UInt8.ofNat m]) = decide (byteAt B a = m)) := by
    intro m hm
    unfold byteAt
    rw [Bool.eq_iff_iff]
    simp only [decide_eq_true_eq, List.cons.injEq, and_true]
    constructor
    · intro h; rw [h]; simp; omega
    · intro h; rw [← h]; simp
  have h0 := hc 0 (by omega)
  have h1 := hc 1 (by omega)
  by_cases hin : B.size ≤ a
  · have hz := byteAt_out B a hin
    rw [hz, if_neg (by omega), decide_eq_true hin]
    refine ⟨_, min (a + 1) B.size, _, rfl, by omega, fun _ => by simp, fun _ _ => ?_, fun _ h => by simp at h⟩
    unfold flagF
    rw [take_q B a 1 ha, if_neg (by omega)]
    rfl
  · rw [decide_eq_false hin, Bool.or_false]
    have ef : flagF (B.extract a B.size) true = (decide (byteAt B a = 1), B.extract (a + 1) B.size, decide (byteAt B a = 0) || decide (byteAt B a = 1)) := by
      unfold flagF
      rw [take_q B a 1 ha, if_pos (by omega)]
      simp only
      rw [hex (by omega)]
      refine Prod.ext h1 (Prod.ext rfl ?_)
      simp only [Bool.true_and]
      exact congr (congrArg _ h0) h1
    by_cases hgt : 1 < byteAt B a
    · rw [if_pos (by omega)]
      refine ⟨_, min (a + 1) B.size, true, rfl, by omega, fun _ => rfl, fun _ _ => ?_, fun _ h => by cases h⟩
      rw [ef, decide_eq_false (show ¬ byteAt B a = 0 by omega), decide_eq_false (show ¬ byteAt B a = 1 by omega)]
      rfl
    · rw [if_neg (by omega)]
      refine ⟨_, min (a + 1) B.size, lost, rfl, by omega, fun h => h, (fun h h' => by rw [h] at h'; cases h'), fun _ _ => ?_⟩
      rw [ef, show min (a + 1) B.size = a + 1 by omega]
      refine Prod.ext ?_ (Prod.ext rfl ?_)
      · show decide (byteAt B a = 1) = (((byteAt B a : Nat) : Int) == 1)
        rw [Bool.eq_iff_iff]
        simp
        omega
      · show (decide (byteAt B a = 0) || decide (byteAt B a = 1)) = true
        simp
        omega

theorem text_c (B : ByteArray) (hB : B.size ≤ 100000) (a : Nat) (ha : a ≤ B.size) (lost : Bool) : ∃ s a' lost', RelQ B a lost rtextF s a' lost' ∧ ∀ (w0 w : World) (g : Nat), IsS65 w0 w g B a lost → Below w0.heap.size w0 w → Calls Try.prog 32 #[.pointer (some ⟨g, 0, none⟩)] w fun e w' => e = .returned (.string s) ∧ IsS65 w0 w' g B a' lost' ∧ Below w0.heap.size w0 w' ∧ KeepBut w w' g none := by
  obtain ⟨s, a', l', e, h⟩ := text_q B hB a ha lost
  exact ⟨s, a', l', h, fun w0 w g hI hb => quoinref17_Reader_Text.calls 5 g B a lost s B a' l' w0 w hI hb e⟩
theorem num_c (B : ByteArray) (hB : B.size ≤ 100000) (a : Nat) (ha : a ≤ B.size) (lost : Bool) : ∃ (n : Nat) (a' : Nat) (lost' : Bool), n < 4294967296 ∧ RelQ B a lost numF n a' lost' ∧ ∀ (w0 w : World) (g : Nat), IsS65 w0 w g B a lost → Below w0.heap.size w0 w → Calls Try.prog 38 #[.pointer (some ⟨g, 0, none⟩)] w fun e w' => e = .returned (.int .i64 n) ∧ IsS65 w0 w' g B a' lost' ∧ Below w0.heap.size w0 w' ∧ KeepBut w w' g none := by
  obtain ⟨s, a', l', e, hn, h⟩ := num_step_q B hB a ha lost
  exact ⟨s, a', l', hn, h, fun w0 w g hI hb => quoinref17_Reader_Num.calls 5 g B a lost s B a' l' w0 w hI hb e⟩
theorem many_c (B : ByteArray) (hB : B.size ≤ 100000) (a : Nat) (ha : a ≤ B.size) (lost : Bool) : ∃ (n : Nat) (a' : Nat) (lost' : Bool), n < 4294967296 ∧ RelQ B a lost manyF n a' lost' ∧ ∀ (w0 w : World) (g : Nat), IsS65 w0 w g B a lost → Below w0.heap.size w0 w → Calls Try.prog 33 #[.pointer (some ⟨g, 0, none⟩)] w fun e w' => e = .returned (.int .i64 n) ∧ IsS65 w0 w' g B a' lost' ∧ Below w0.heap.size w0 w' ∧ KeepBut w w' g none := by
  obtain ⟨s, a', l', e, hn, h⟩ := many_q B hB a ha lost
  exact ⟨s, a', l', hn, h, fun w0 w g hI hb => quoinref17_Reader_many.calls 5 g B a lost s B a' l' w0 w hI hb e⟩
theorem flag_c (B : ByteArray) (hB : B.size ≤ 100000) (a : Nat) (ha : a ≤ B.size) (lost : Bool) : ∃ (b : Bool) (a' : Nat) (lost' : Bool), RelQ B a lost flagF b a' lost' ∧ ∀ (w0 w : World) (g : Nat), IsS65 w0 w g B a lost → Below w0.heap.size w0 w → Calls Try.prog 34 #[.pointer (some ⟨g, 0, none⟩)] w fun e w' => e = .returned (.bool b) ∧ IsS65 w0 w' g B a' lost' ∧ Below w0.heap.size w0 w' ∧ KeepBut w w' g none := by
  obtain ⟨s, a', l', e, h⟩ := flag_q B hB a ha lost
  exact ⟨s, a', l', h, fun w0 w g hI hb => quoinref17_Reader_flag.calls g B a lost s B a' l' w0 w hI hb e⟩
end Go.Proofs.Ytnafeapbglflnaa
