/- Walks of pos.Lines' small methods. -/
import Derived.Test.YtpncoliiimpgcaaProg
import Derived.WalkKit
import Derived.KernelRfl
import Derived.WalkLawsBesides
import Derived.WalkSpells
import Derived.Deep.QuietTactic
import Derived.BigQuiet
import Derived.Lib.Hide
import Derived.Below
import Derived.Outline
import Derived.RowKit3
import Derived.OpenShut
namespace Go.Proofs.Ytpncoliiimpgcaa
open Go.RowKit

/-- The world is the old one, but for draws. -/
structure Drew (w w' : World) : Prop where mk :: (out : ∃ n, w' = w.drewN n)
theorem Drew.refl (w : World) : Drew w w := ⟨⟨0, rfl⟩⟩
theorem Drew.step {w w' : World} (h : Drew w w') (n : Nat) : Drew w (w'.drewN n) := by
  obtain ⟨m, rfl⟩ := h
  exact ⟨⟨m + n, World.drewN_drewN ..⟩⟩

/-- What a text's lines hold, at block b of w: the text, and the begins B in block g. -/
structure IsLines (w : World) (b : Nat) (s : ByteArray) (g cap : Nat) (B : List Int) : Prop where
  text : w.cell? ⟨b, 0, none⟩ = some (.string s)
  row : w.cell? ⟨b, 1, none⟩ = some (.slice (some ⟨g, 0, none⟩) B.length cap)
  cells : ∀ i : Nat, i < B.length → w.cell? ⟨g, i, none⟩ = some (.int .i64 (B.getD i 0))

theorem count_nil (w : World) : Calls Try.prog 14 #[.pointer none] w fun e w' => e = .returned (.int .i64 0) ∧ w = w' := by
  go_enter Try.func14, Try.ntmps14
  go_wp2
  go_ret
  exact ⟨rfl, rfl⟩

theorem count_some {w : World} {b g cap : Nat} {s : ByteArray} {B : List Int} (h : IsLines w b s g cap B) (hn : B.length ≤ 1152921504606846976) (hn1 : 1 ≤ B.length) :
    Calls Try.prog 14 #[.pointer (some ⟨b, 0, none⟩)] w fun e w' => e = .returned (.int .i64 (B.length - 1)) ∧ w = w' := by
  have h1 := h.row
  clear h
  generalize B.length = n at *
  go_enter Try.func14, Try.ntmps14
  go_wp2
  go_ret
  exact ⟨by simp, rfl⟩

theorem line_nil (n : Int) (w : World) : Calls Try.prog 18 #[.pointer none, .int .i64 n] w fun e w' => e = .returned (.tuple #[.string ByteArray.empty, .int .i64 1]) ∧ w = w' := by
  go_enter Try.func18, Try.ntmps18
  go_wp2
  go_ret2
  exact ⟨rfl, rfl⟩

theorem line_low (n : Int) (p : Nat) (w : World) (hn : n < 1) : Calls Try.prog 18 #[.pointer (some ⟨p, 0, none⟩), .int .i64 n] w fun e w' => e = .returned (.tuple #[.string ByteArray.empty, .int .i64 10]) ∧ w = w' := by
  go_enter Try.func18, Try.ntmps18
  go_wp2
  go_ret2
  exact ⟨rfl, rfl⟩

theorem line_high {w : World} {b g cap : Nat} {s : ByteArray} {B : List Int} (h : IsLines w b s g cap B) (hn : B.length ≤ 1152921504606846976) (hn1 : 1 ≤ B.length)
    (n : Int) (h0 : ¬ n < 1) (h1 : (B.length : Int) - 1 < n) : Calls Try.prog 18 #[.pointer (some ⟨b, 0, none⟩), .int .i64 n] w fun e w' => e = .returned (.tuple #[.string ByteArray.empty, .int .i64 10]) ∧ w = w' := by
  go_enter Try.func18, Try.ntmps18
  go_wp2_with (go_at_call 14; refine (count_some h hn hn1).mono ?_; rintro e w' ⟨rfl, rfl⟩)
  go_ret2
  exact ⟨rfl, rfl⟩

theorem line_yes {w : World} {b g cap : Nat} {s : ByteArray} {B : List Int} (h : IsLines w b s g cap B) (hn : B.length ≤ 1152921504606846976)
    (n : Nat) (h0 : 1 ≤ n) (h1 : n < B.length) (hx0 : 0 ≤ B.getD (n - 1) 0) (hx : B.getD (n - 1) 0 ≤ B.getD n 0 - 1) (hy : B.getD n 0 - 1 ≤ s.size) (hs : (s.size : Int) ≤ 1152921504606846976) :
    Calls Try.prog 18 #[.pointer (some ⟨b, 0, none⟩), .int .i64 n] w fun e w' => e = .returned (.tuple #[.string (s.extract (B.getD (n - 1) 0).toNat (B.getD n 0 - 1).toNat), .int .i64 0]) ∧ Drew w w' := by
  have ht := h.text
  have hr := h.row
  have hc0 := h.cells (n - 1) (by omega)
  have hc1 := h.cells n h1
  have hn1 : 1 ≤ B.length := by omega
  generalize B.getD (n - 1) 0 = x at *
  generalize B.getD n 0 = y at *
  have hq : ¬ ((B.length : Int) - 1 < n) := by omega
  have e1 : ((n : Int) - 1).toNat = n - 1 := by omega
  have e2 : 0 ≤ (n : Int) - 1 := by omega
  have e3 : (n : Int) - 1 < B.length := by omega
  have e4 : 0 ≤ y - 1 := by omega
  go_enter Try.func18, Try.ntmps18
  go_wp2_with (go_at_call 14; refine (count_some h hn hn1).mono ?_; rintro e w' ⟨rfl, rfl⟩)
  go_quiet (fail)
  go_wp2
  go_ret2
  exact ⟨by simp, Drew.step (Drew.refl _) _⟩

theorem at_err {p : Value} {n : Int} {er : Int} {w : World} (c : Int) (h : Calls Try.prog 18 #[p, .int .i64 n] w fun e w' => e = .returned (.tuple #[.string ByteArray.empty, .int .i64 er]) ∧ w = w') (her : (er != 0) = true) :
    Calls Try.prog 16 #[p, .int .i64 n, .int .i64 c] w fun e w' => e = .returned (.tuple #[.int .i64 0, .int .i64 er]) ∧ w = w' := by
  have H := Lib.hid h
  clear h
  go_enter Try.func16, Try.ntmps16
  go_wp2_with (go_at_call 18; refine H.out.mono ?_; rintro e w' ⟨rfl, rfl⟩)
  go_ret2
  exact ⟨rfl, rfl⟩

/-- At: no such column. -/
theorem at_col {w : World} {b g cap : Nat} {s : ByteArray} {B : List Int} (h : IsLines w b s g cap B) (hn : B.length ≤ 1152921504606846976)
    (n : Nat) (h0 : 1 ≤ n) (h1 : n < B.length) (hx0 : 0 ≤ B.getD (n - 1) 0) (hx : B.getD (n - 1) 0 ≤ B.getD n 0 - 1) (hy : B.getD n 0 - 1 ≤ s.size) (hs : (s.size : Int) ≤ 1152921504606846976) 
    (c : Int) (hw : (Lit.int .i64 c).wf = true) (hc : c < 1 ∨ B.getD n 0 - 1 - B.getD (n - 1) 0 < c - 1) :
    Calls Try.prog 16 #[.pointer (some ⟨b, 0, none⟩), .int .i64 n, .int .i64 c] w fun e w' => e = .returned (.tuple #[.int .i64 0, .int .i64 10]) ∧ Drew w w' := by
  have H := Lib.hid (line_yes h hn n h0 h1 hx0 hx hy hs)
  have hb := bounds_i64 hw
  generalize B.getD (n - 1) 0 = x at *
  generalize B.getD n 0 = y at *
  have hz : ((s.extract x.toNat (y - 1).toNat).size : Int) = y - 1 - x := by simp; omega
  generalize hu : s.extract x.toNat (y - 1).toNat = u at *
  have hz' : (u.size : Int) ≤ y - 1 - x ∧ y - 1 - x ≤ u.size := by omega
  clear h hu hz
  go_enter Try.func16, Try.ntmps16
  by_cases hc1 : c < 1
  · go_wp2_with (go_at_call 18; refine H.out.mono ?_; rintro e w' ⟨rfl, ⟨k, rfl⟩⟩)
    go_ret2
    exact ⟨rfl, Drew.step (Drew.refl _) _⟩
  · have hc2 : (u.size : Int) < c - 1 := by omega
    go_wp2_with (go_at_call 18; refine H.out.mono ?_; rintro e w' ⟨rfl, ⟨k, rfl⟩⟩)
    go_ret2
    exact ⟨rfl, Drew.step (Drew.refl _) _⟩

/-- At: the place. -/
theorem at_yes {w : World} {b g cap : Nat} {s : ByteArray} {B : List Int} (h : IsLines w b s g cap B) (hn : B.length ≤ 1152921504606846976)
    (n : Nat) (h0 : 1 ≤ n) (h1 : n < B.length) (hx0 : 0 ≤ B.getD (n - 1) 0) (hx : B.getD (n - 1) 0 ≤ B.getD n 0 - 1) (hy : B.getD n 0 - 1 ≤ s.size) (hs : (s.size : Int) ≤ 1152921504606846976) 
    (c : Int) (hc1 : ¬ c < 1) (hc2 : c - 1 ≤ B.getD n 0 - 1 - B.getD (n - 1) 0) :
    Calls Try.prog 16 #[.pointer (some ⟨b, 0, none⟩), .int .i64 n, .int .i64 c] w fun e w' => e = .returned (.tuple #[.int .i64 (B.getD (n - 1) 0 + c - 1), .int .i64 0]) ∧ Drew w w' := by
  have H := Lib.hid (line_yes h hn n h0 h1 hx0 hx hy hs)
  have hr := h.row
  have hc0 := h.cells (n - 1) (by omega)
  generalize B.getD (n - 1) 0 = x at *
  generalize B.getD n 0 = y at *
  have hz : ((s.extract x.toNat (y - 1).toNat).size : Int) = y - 1 - x := by simp; omega
  generalize hu : s.extract x.toNat (y - 1).toNat = u at *
  have hz' : (u.size : Int) ≤ y - 1 - x ∧ y - 1 - x ≤ u.size := by omega
  have hc2 : c - 1 ≤ (u.size : Int) := by omega
  have hc3 : ¬ (u.size : Int) < c - 1 := by omega
  have e1 : ((n : Int) - 1).toNat = n - 1 := by omega
  have e2 : 0 ≤ (n : Int) - 1 := by omega
  have e3 : (n : Int) - 1 < B.length := by omega
  clear h hu hz
  go_enter Try.func16, Try.ntmps16
  go_wp2_with (go_at_call 18; refine H.out.mono ?_; rintro e w' ⟨rfl, ⟨k, rfl⟩⟩)
  go_ret2
  exact ⟨rfl, Drew.step (Drew.refl _) _⟩
end Go.Proofs.Ytpncoliiimpgcaa
