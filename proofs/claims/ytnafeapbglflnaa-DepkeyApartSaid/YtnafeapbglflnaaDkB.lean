/- The walks of depkey's reader. -/
import Derived.Test.YtnafeapbglflnaaDkA
import Derived.Lib.ConvBytes
import Derived.Laws.BitsLemmas
namespace Go.Proofs.Ytnafeapbglflnaa
open Go.RowKit
set_option linter.unusedVariables false

/-- What a reader holds: the bytes that are left; nothing was wrong. -/
def IsRd (g : Nat) (b : ByteArray) (fine : Bool) (w : World) : Prop := w.heap[g]? = some (.cells #[.string b, .bool fine] 60 (0, 0))

def takeF (b : ByteArray) (fine : Bool) (n : Nat) : ByteArray × ByteArray × Bool :=
  if fine = true ∧ n ≤ b.size then (b.extract 0 n, b.extract n b.size, true) else (ByteArray.empty, b, false)

set_option maxHeartbeats 1000000 in
theorem take_any (b : ByteArray) (fine : Bool) (n g : Nat) (w : World) (h : IsRd g b fine w) :
    Calls Try.prog 42 #[.pointer (some ⟨g, 0, none⟩), .int .i64 n] w fun e w' => e = .returned (.string (takeF b fine n).1) ∧ IsRd g (takeF b fine n).2.1 (takeF b fine n).2.2 w' ∧ Keeps w w' (· = g) := by
  have c0 : w.cell? ⟨g, 0, none⟩ = some (.string b) := (blk_cell h 0).trans rfl
  have c1 : w.cell? ⟨g, 1, none⟩ = some (.bool fine) := (blk_cell h 1).trans rfl
  have f0 := blk_free h 0
  have f1 := blk_free h 1
  have HS1 := Lib.hid (blk_set h 1 (.bool false))
  have HS0 := Lib.hid (blk_set h 0 (.string (b.extract n b.size)))
  clear h
  by_cases hf : fine = true
  · subst hf
    by_cases hn : n ≤ b.size
    · have e : takeF b true n = (b.extract 0 n, b.extract n b.size, true) := by unfold takeF; rw [if_pos ⟨rfl, hn⟩]
      have HE := Lib.hid e
      clear e
      have hd : decide ((b.size : Int) < n) = false := decide_eq_false (by omega)
      have hn1 : (n : Int) ≤ b.size := by omega
      go_enter Try.func42, Try.ntmps42
      go_wp2
      go_ret
      rw [HE.out]
      exact ⟨rfl, HS0.out, (Keeps.refl _ _).set _ _ _ (.inl rfl)⟩
    · have e : takeF b true n = (ByteArray.empty, b, false) := by unfold takeF; rw [if_neg (by rintro ⟨_, h⟩; exact hn h)]
      have HE := Lib.hid e
      clear e
      have hd : decide ((b.size : Int) < n) = true := decide_eq_true (by omega)
      go_enter Try.func42, Try.ntmps42
      go_wp2
      go_ret
      rw [HE.out]
      exact ⟨rfl, HS1.out, (Keeps.refl _ _).set _ _ _ (.inl rfl)⟩
  · have e : takeF b fine n = (ByteArray.empty, b, false) := by unfold takeF; rw [if_neg (by rintro ⟨h, _⟩; exact hf h)]
    have HE := Lib.hid e
    clear e
    obtain rfl : fine = false := by cases fine <;> simp_all
    clear hf
    go_enter Try.func42, Try.ntmps42
    go_wp2
    go_ret
    rw [HE.out]
    exact ⟨rfl, HS1.out, (Keeps.refl _ _).set _ _ _ (.inl rfl)⟩

/-- Bytes as a number. -/
def numOf (l : List UInt8) : Nat := l.foldl (fun a c => a * 256 + c.toNat) 0
theorem numOf_snoc (l : List UInt8) (c : UInt8) : numOf (l ++ [c]) = numOf l * 256 + c.toNat := by simp [numOf]
theorem numOf_lt : ∀ (l : List UInt8), numOf l < 256 ^ l.length := by
  intro l
  rw [← List.reverse_reverse l]
  generalize l.reverse = r
  induction r with
  | nil => simp [numOf]
  | cons c r ih =>
    rw [List.reverse_cons, numOf_snoc, List.length_append, List.length_singleton, Nat.pow_succ]
    have := c.toNat_lt
    omega

def numF (b : ByteArray) (fine : Bool) : Nat × ByteArray × Bool :=
  (numOf (takeF b fine 4).1.data.toList, (takeF b fine 4).2.1, (takeF b fine 4).2.2 && decide (numOf (takeF b fine 4).1.data.toList ≤ 2147483647))

theorem takeF_size (b : ByteArray) (fine : Bool) (n : Nat) : (takeF b fine n).1.size ≤ n := by
  unfold takeF
  split
  · simp; omega
  · simp

theorem or_join (x y : Nat) (hx : x < 16777216) (hy : y < 256) : bits .or .i64 ((x : Int) * 256) y = ((x * 256 + y : Nat) : Int) := by
  rw [bits_join .i64 62 (by decide) (fun n h0 h1 => by rw [IntKind.wrap_i64]; omega) 8 _ _ (by omega) (by omega) (by omega) (by omega) (by omega) (by omega)]
  omega

set_option maxHeartbeats 1000000 in
theorem rnum_any (b : ByteArray) (fine : Bool) (g : Nat) (w : World) (h : IsRd g b fine w) :
    Calls Try.prog 37 #[.pointer (some ⟨g, 0, none⟩)] w fun e w' => e = .returned (.int .i64 (numF b fine).1) ∧ IsRd g (numF b fine).2.1 (numF b fine).2.2 w' ∧ Keeps w w' (· = g) := by
  have hc := take_any b fine 4 g w h
  have hs := takeF_size b fine 4
  have HC := Lib.hid hc
  have HN : Hid (numF b fine = (numOf (takeF b fine 4).1.data.toList, (takeF b fine 4).2.1, (takeF b fine 4).2.2 && decide (numOf (takeF b fine 4).1.data.toList ≤ 2147483647))) := Lib.hid rfl
  generalize hx : takeF b fine 4 = x at *
  obtain ⟨s, b', f'⟩ := x
  clear hc h hx
  simp only at HC HN hs
  go_enter Try.func37, Try.ntmps37
  go_wp2_with (fail)
  refine HC.out.mono ?_
  rintro e w1 ⟨rfl, hi1, hk1⟩
  have hcv := Lib.run_convert_string_bytes (P := Try.prog) w1 9 49 5 s Try.underlying9 Try.underlying49 Try.underlying5
  have HI := Lib.hid hi1
  have HK := Lib.hid hk1
  clear HC hi1 hk1
  have hcell : ∀ j, j < s.size → (Lib.bytesWorld w1 5 s).cell? ⟨w1.heap.size, j, none⟩ = some (.int .u8 (s.data.toList.getD j 0).toNat) := Lib.bytesWorld_cell w1 5 s
  have HCL := Lib.hid hcell
  have hk2 : Keeps w1 (Lib.bytesWorld w1 5 s) (fun _ => False) := ⟨rfl, rfl, rfl, by rw [Lib.bytesWorld_size]; omega, fun k hk _ => Lib.bytesWorld_at_old w1 5 s k hk⟩
  have HI2 := Lib.hid (hk2.blk HI.out (fun h => h))
  have HK2 := Lib.hid (HK.out.trans hk2 (fun _ _ h => h.elim))
  clear hcell hk2 HI HK
  generalize Lib.bytesWorld w1 5 s = W at *
  go_wp2_with (fail)
  go_loop [3, 10] (fun nv iv => ∃ k : Nat, k ≤ s.size ∧ iv = .int .i64 k ∧ nv = .int .i64 (numOf (s.data.toList.take k) : Nat)) (fun _ iv => s.size - (intOf iv).toNat)
  case atStart => exact ⟨0, Nat.zero_le _, rfl, rfl⟩
  case round =>
    obtain ⟨k, hk, rfl, rfl⟩ := hrel
    by_cases hlt : k < s.size
    · have hc := HCL.out k hlt
      have ht : s.data.toList.take (k + 1) = s.data.toList.take k ++ [s.data.toList.getD k 0] := by
        have hlen : k < s.data.toList.length := by rw [Array.length_toList]; exact hlt
        rw [List.take_succ_eq_append_getElem hlen]
        simp [List.getD_eq_getElem?_getD, List.getElem?_eq_getElem hlen]
      have hb := numOf_lt (s.data.toList.take k)
      have hb2 : numOf (s.data.toList.take k) < 16777216 := by
        have h1 : (s.data.toList.take k).length ≤ 3 := by simp; omega
        have h2 : 256 ^ (s.data.toList.take k).length ≤ 256 ^ 3 := Nat.pow_le_pow_right (by omega) h1
        omega
      have HT := Lib.hid (show numOf (s.data.toList.take (k + 1)) = numOf (s.data.toList.take k) * 256 + (s.data.toList.getD k 0).toNat by rw [ht, numOf_snoc])
      have hc0 := (s.data.toList.getD k 0).toNat_lt
      clear hb ht
      generalize (s.data.toList.getD k 0).toNat = c at *
      generalize numOf (s.data.toList.take k) = m at *
      have ho := or_join m c hb2 (by omega)
      go_wp2
      go_round
      case rel => exact ⟨k + 1, by omega, by go_num, by rw [HT.out]; first | rfl | go_num⟩
      case measure => simp [intOf]; omega
    · obtain rfl : k = s.size := by omega
      have ht : s.data.toList.take s.size = s.data.toList := List.take_of_length_le (by rw [Array.length_toList]; exact Nat.le_refl _)
      rw [ht]
      generalize numOf s.data.toList = m at *
      have c1 : W.cell? ⟨g, 1, none⟩ = some (.bool f') := (blk_cell HI2.out 1).trans rfl
      have f1 := blk_free HI2.out 1
      have HS1 := Lib.hid (fun v => blk_set HI2.out 1 (.bool v))
      cases f' with
      | false =>
        go_wp2
        go_ret
        rw [HN.out]
        exact ⟨rfl, HS1.out _, HK2.out.set _ _ _ (.inl rfl)⟩
      | true =>
        go_wp2
        go_ret
        rw [HN.out]
        refine ⟨rfl, ?_, HK2.out.set _ _ _ (.inl rfl)⟩
        rw [show decide ((m : Int) ≤ 2147483647) = decide (m ≤ 2147483647) from decide_eq_decide.2 (by omega)]
        exact HS1.out _
def rtextF (b : ByteArray) (fine : Bool) : ByteArray × ByteArray × Bool := takeF (numF b fine).2.1 (numF b fine).2.2 (numF b fine).1

theorem rtext_any (b : ByteArray) (fine : Bool) (g : Nat) (w : World) (h : IsRd g b fine w) :
    Calls Try.prog 29 #[.pointer (some ⟨g, 0, none⟩)] w fun e w' => e = .returned (.string (rtextF b fine).1) ∧ IsRd g (rtextF b fine).2.1 (rtextF b fine).2.2 w' ∧ Keeps w w' (· = g) := by
  have HC := Lib.hid (rnum_any b fine g w h)
  have HT := Lib.hid (take_any (numF b fine).2.1 (numF b fine).2.2 (numF b fine).1 g)
  have HE : Hid (rtextF b fine = takeF (numF b fine).2.1 (numF b fine).2.2 (numF b fine).1) := Lib.hid rfl
  generalize numF b fine = x at *
  obtain ⟨n, b', f'⟩ := x
  clear h
  simp only at HC HT HE
  go_enter Try.func29, Try.ntmps29
  go_wp2_with (fail)
  refine HC.out.mono ?_
  rintro e w1 ⟨rfl, hi1, hk1⟩
  have HK := Lib.hid hk1
  have HC2 := Lib.hid (HT.out w1 hi1)
  clear HC HT hi1 hk1
  go_wp2_with (fail)
  refine HC2.out.mono ?_
  rintro e w2 ⟨rfl, hi2, hk2⟩
  have HR := Lib.hid (And.intro hi2 (HK.out.same hk2))
  clear hi2 hk2 HC2
  go_wp2
  go_ret
  rw [HE.out]
  exact ⟨rfl, HR.out⟩

def manyF (b : ByteArray) (fine : Bool) : Nat × ByteArray × Bool := ((numF b fine).1, (numF b fine).2.1, (numF b fine).2.2 && decide ((numF b fine).1 ≤ 5000))

theorem many_any (b : ByteArray) (fine : Bool) (g : Nat) (w : World) (h : IsRd g b fine w) :
    Calls Try.prog 30 #[.pointer (some ⟨g, 0, none⟩)] w fun e w' => e = .returned (.int .i64 (manyF b fine).1) ∧ IsRd g (manyF b fine).2.1 (manyF b fine).2.2 w' ∧ Keeps w w' (· = g) := by
  have HC := Lib.hid (rnum_any b fine g w h)
  have HE : Hid (manyF b fine = ((numF b fine).1, (numF b fine).2.1, (numF b fine).2.2 && decide ((numF b fine).1 ≤ 5000))) := Lib.hid rfl
  generalize numF b fine = x at *
  obtain ⟨m, b', f'⟩ := x
  clear h
  simp only at HC HE
  go_enter Try.func30, Try.ntmps30
  go_wp2_with (fail)
  refine HC.out.mono ?_
  rintro e W ⟨rfl, hi1, hk1⟩
  have c1 : W.cell? ⟨g, 1, none⟩ = some (.bool f') := (blk_cell hi1 1).trans rfl
  have f1 := blk_free hi1 1
  have HS1 := Lib.hid (fun v => blk_set hi1 1 (.bool v))
  have HK := Lib.hid hk1
  clear hi1 hk1 HC
  cases f' with
  | false =>
    go_wp2
    go_ret
    rw [HE.out]
    exact ⟨rfl, HS1.out _, HK.out.set _ _ _ (.inl rfl)⟩
  | true =>
    go_wp2
    go_ret
    rw [HE.out]
    refine ⟨rfl, ?_, HK.out.set _ _ _ (.inl rfl)⟩
    rw [show decide ((m : Int) ≤ 5000) = decide (m ≤ 5000) from decide_eq_decide.2 (by omega)]
    exact HS1.out _

def flagF (b : ByteArray) (fine : Bool) : Bool × ByteArray × Bool :=
  (decide ((takeF b fine 1).1.data.toList = [1]), (takeF b fine 1).2.1, (takeF b fine 1).2.2 && (decide ((takeF b fine 1).1.data.toList = [0]) || decide ((takeF b fine 1).1.data.toList = [1])))

theorem take_one (b : ByteArray) (fine : Bool) : ((takeF b fine 1).2.2 = false ∧ (takeF b fine 1).1 = ByteArray.empty) ∨ ((takeF b fine 1).2.2 = true ∧ ∃ c : UInt8, (takeF b fine 1).1 = ⟨#[c]⟩) := by
  unfold takeF
  split
  · rename_i h
    right
    refine ⟨rfl, ?_⟩
    have hs : (b.extract 0 1).size = 1 := by simp; omega
    generalize b.extract 0 1 = u at *
    obtain ⟨⟨l⟩⟩ := u
    match l, hs with
    | [c], _ => exact ⟨c, rfl⟩
  · exact .inl ⟨rfl, rfl⟩

theorem bytesLess_one (c : UInt8) : Op.bytesLess [c] [1] = decide ([c] = [0]) := by
  simp [Op.bytesLess]

theorem rflag_any (b : ByteArray) (fine : Bool) (g : Nat) (w : World) (h : IsRd g b fine w) :
    Calls Try.prog 31 #[.pointer (some ⟨g, 0, none⟩)] w fun e w' => e = .returned (.bool (flagF b fine).1) ∧ IsRd g (flagF b fine).2.1 (flagF b fine).2.2 w' ∧ Keeps w w' (· = g) := by
  have HC := Lib.hid (take_any b fine 1 g w h)
  have H1 := Lib.hid (take_one b fine)
  have HE : Hid (flagF b fine = (decide ((takeF b fine 1).1.data.toList = [1]), (takeF b fine 1).2.1, (takeF b fine 1).2.2 && (decide ((takeF b fine 1).1.data.toList = [0]) || decide ((takeF b fine 1).1.data.toList = [1])))) := Lib.hid rfl
  generalize takeF b fine 1 = x at *
  obtain ⟨s, b', f'⟩ := x
  clear h
  simp only at HC HE H1
  go_enter Try.func31, Try.ntmps31
  go_wp2_with (fail)
  refine HC.out.mono ?_
  rintro e W ⟨rfl, hi1, hk1⟩
  have c1 : W.cell? ⟨g, 1, none⟩ = some (.bool f') := (blk_cell hi1 1).trans rfl
  have f1 := blk_free hi1 1
  have HS1 := Lib.hid (fun v => blk_set hi1 1 (.bool v))
  have HK := Lib.hid hk1
  clear hi1 hk1 HC
  rcases H1.out with ⟨rfl, rfl⟩ | ⟨rfl, c, rfl⟩
  · clear H1
    go_wp2
    go_ret
    rw [HE.out]
    exact ⟨rfl, HS1.out _, HK.out.set _ _ _ (.inl rfl)⟩
  · clear H1
    go_wp2
    go_ret
    rw [HE.out]
    have e1 : (c == 1) = decide ([c] = [1]) := by simp [BEq.beq]
    have e2 : (Op.bytesLess [c] [1] || c == 1) = (true && (decide ([c] = [0]) || decide ([c] = [1]))) := by
      rw [← e1, bytesLess_one]
      simp
    refine ⟨?_, ?_, HK.out.set _ _ _ (.inl rfl)⟩
    · show Ending.returned (.bool (c == 1)) = _
      rw [e1]
    · rw [e2]
      exact HS1.out _
end Go.Proofs.Ytnafeapbglflnaa
