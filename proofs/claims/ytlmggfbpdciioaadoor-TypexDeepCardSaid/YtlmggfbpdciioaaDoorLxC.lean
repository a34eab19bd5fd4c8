/- lex: Word, quoted, token. -/
import Derived.Test.YtlmggfbpdciioaaDoorLxB
import Derived.Laws.ResultCell
import Derived.Laws.Rows
namespace Go.Proofs.YtlmggfbpdciioaaDoor
open Go.RowKit
set_option linter.unusedVariables false

theorem isWord_get (x : List UInt8) : (isWordF 17 x).getD (.bool false) = .bool (wordB x) := by
  rw [isWordF_all]
  cases wordB x <;> rfl
theorem word_look {W : World} {b : Nat} (h : SMap Tryd.prog 9 W b 17 (isWordF 17)) (s : ByteArray) (hs : s.size ≤ maxLen) :
    (Instr.lookup 50 (.map (some b)) (.string s) false).run Tryd.prog W = .ok (.bool (wordB s.data.toList)) W := by
  rw [h.look Tryd.underlying9 Tryd.underlying50 (Tryd.zeroValue4 _) false s hs]
  simp only [Bool.false_eq_true, if_false, isWord_get]

theorem word_any (s : ByteArray) (hs : s.size ≤ maxLen) (w : World) (ht : Tab w) : Calls Tryd.prog 18 #[.string s] w fun e w' => e = .returned (.bool (wordB s.data.toList)) ∧ Below w.heap.size w w' := by
  have HW := Lib.hid (words_any w ht)
  have HS := Lib.hid hs
  clear hs
  go_enter Tryd.func18, Tryd.ntmps18
  go_wp2_with (fail)
  refine HW.out.mono ?_
  rintro e w1 ⟨b, rfl, _, hS, hb⟩
  have hl := word_look hS s HS.out
  have HB := Lib.hid hb
  clear hS hb
  go_wp2
  go_ret
  exact ⟨rfl, HB.out⟩

/-- A token as a value: kind, place, end, text. -/
def tkV (kd a e : Nat) (x : ByteArray) : Value := .agg #[.int .i64 (kd : Int), .int .i64 (a : Int), .int .i64 (e : Int), .string x]

theorem info31 : (Tryd.prog.info? 31).map (·.size) = some 4 := by kernel_rfl
/-- The end of a function that hands back a token and a number. -/
theorem tok_end {fn : Func} {p u : Tmp} (hr : fn.results = #[.cell p 31, .tmp u]) {R : Ending → World → Prop} {a : Act} {W : World} {h : Nat} {v0 v1 v2 v3 x : Value} (hR : W.heap[h]? = some (.cells #[v0, v1, v2, v3] 31 (0, 0)))
    (hp : a.tmps.getD p undef = .pointer (some ⟨h, 0, none⟩)) (hu : a.tmps.getD u undef = x) (hd : a.defers = []) (hQ : R (.returned (.tuple #[.agg #[v0, v1, v2, v3], x])) W) : bodyPost Tryd.prog fn R .ret a W := by
  refine bodyPost_ret ((results_cell_tmp (p := p) (u := u) (ty := 31) hr a.tmps Tryd.prog _).trans ?_) hd hQ
  rw [hp, hu]
  have h3 := run_loadVar_row (P := Tryd.prog) _ h 31 31 #[v0, v1, v2, v3] (0, 0) _ hR Tryd.underlying31 rfl (info31.trans rfl)
  simp only [asAddr, Sem.run_pure, Result.andThen_ok, h3]
def quoteOk (s : ByteArray) (a : Nat) : Prop := ((s.data.toList.drop (a + 1)).drop (wh quoteB (s.data.toList.drop (a + 1)))).head? = some 34 ∧ wh quoteB (s.data.toList.drop (a + 1)) ≤ 200

theorem quoted_any (s : ByteArray) (hs : s.size ≤ 9223372036854775806) (a : Nat) (ha : a < s.size) (w : World) :
    (quoteOk s a → Calls Tryd.prog 55 #[.string s, .int .i64 (a : Int)] w fun e w' => e = .returned (.tuple #[tkV 3 a (a + wh quoteB (s.data.toList.drop (a + 1)) + 2) ByteArray.empty, .int .i64 0]) ∧ Below w.heap.size w w') ∧
    (¬ quoteOk s a → Calls Tryd.prog 55 #[.string s, .int .i64 (a : Int)] w fun e w' => e = .returned (.tuple #[tkV 0 0 0 ByteArray.empty, .int .i64 3]) ∧ Below w.heap.size w w') := by
  have e60 := enters_of Tryd.func60 (by kernel_rfl) rfl
  have W := while_any 60 quoteB quote_is e60 s hs (a + 1) (by omega) (w.alloc (.cells #[.int .i64 0, .int .i64 0, .int .i64 0, .string ByteArray.empty] 31))
  have hl := wh_le quoteB (s.data.toList.drop (a + 1))
  rw [List.length_drop, len_toList] at hl
  unfold quoteOk
  rw [List.drop_drop]
  generalize hn : wh quoteB (s.data.toList.drop (a + 1)) = n at *
  obtain ⟨k, hk⟩ : ∃ k, k = a + 1 + n := ⟨_, rfl⟩
  have hk2 : a + n + 2 = k + 1 := by omega
  rw [← hk] at W ⊢
  rw [hk2]
  have hka : a + 1 ≤ k := by omega
  have hks : k ≤ s.size := by omega
  have hn2 : n ≤ 200 ↔ k - a - 1 ≤ 200 := by omega
  rw [hn2]
  clear hn2 hn hl hk2 hk e60
  have HW := Lib.hid W
  clear W
  rcases Nat.lt_or_ge k s.size with hlt | hge
  · rw [drop_at s k hlt]
    simp only [List.head?_cons, Option.some.injEq]
    generalize hc : s[k] = c
    by_cases h34 : c = 34
    · by_cases h200 : k - a - 1 ≤ 200
      · refine ⟨fun _ => ?_, fun h => absurd ⟨h34, h200⟩ h⟩
        subst h34
        have hne : ((k : Int) == (s.size : Int)) = false := by simp; omega
        have h1 : ((s[k].toNat : Int) != 34) = false := by rw [hc]; rfl
        have h2 : decide ((200 : Int) < (k : Int) - (a : Int) - 1) = false := by simp; omega
        clear hc
        go_enter Tryd.func55, Tryd.ntmps55
        go_wp2_with (go_at_call 47; refine HW.out.mono ?_; rintro e w' ⟨rfl, rfl⟩)
        exact tok_end rfl (blk_new w _) rfl rfl rfl ⟨rfl, bel_alloc (Below.refl _ _) _⟩
      · refine ⟨fun h => absurd h.2 h200, fun _ => ?_⟩
        subst h34
        have hne : ((k : Int) == (s.size : Int)) = false := by simp; omega
        have h1 : ((s[k].toNat : Int) != 34) = false := by rw [hc]; rfl
        have h2 : decide ((200 : Int) < (k : Int) - (a : Int) - 1) = true := by simp; omega
        clear hc
        go_enter Tryd.func55, Tryd.ntmps55
        go_wp2_with (go_at_call 47; refine HW.out.mono ?_; rintro e w' ⟨rfl, rfl⟩)
        exact tok_end rfl (blk_new w _) rfl rfl rfl ⟨rfl, bel_alloc (Below.refl _ _) _⟩
    · refine ⟨fun h => absurd h.1 h34, fun _ => ?_⟩
      have hne : ((k : Int) == (s.size : Int)) = false := by simp; omega
      have h1 : ((s[k].toNat : Int) != 34) = true := by
        rw [hc]
        simp only [bne_iff_ne, ne_eq]
        intro h
        apply h34
        apply UInt8.toNat_inj.1
        have : (34 : UInt8).toNat = 34 := rfl
        omega
      clear hc
      go_enter Tryd.func55, Tryd.ntmps55
      go_wp2_with (go_at_call 47; refine HW.out.mono ?_; rintro e w' ⟨rfl, rfl⟩)
      all_goals exact tok_end rfl (blk_new w _) rfl rfl rfl ⟨rfl, bel_alloc (Below.refl _ _) _⟩
  · have hk : k = s.size := by omega
    subst hk
    rw [drop_end]
    refine ⟨fun h => by simp at h, fun _ => ?_⟩
    clear hge hks
    go_enter Tryd.func55, Tryd.ntmps55
    go_wp2_with (go_at_call 47; refine HW.out.mono ?_; rintro e w' ⟨rfl, rfl⟩)
    all_goals exact tok_end rfl (blk_new w _) rfl rfl rfl ⟨rfl, bel_alloc (Below.refl _ _) _⟩
end Go.Proofs.YtlmggfbpdciioaaDoor
