/- term.Same: whether two types are the same. -/
import Derived.Test.YtbhagjhhgmmcgaaTyG
namespace Go.Proofs.Ytbhagjhhgmmcgaa
open Go.RowKit PRef Go.Proofs.YtbhagjhhgmmcgaaW.PrintWords
set_option linter.unusedVariables false

mutual
def sameT : Ty → Ty → Bool
  | ⟨k, p, n, m, l⟩, ⟨k', p', n', m', l'⟩ =>
    if k ≠ k' then false
    else if k = 4 then decide (p = p' ∧ n = n')
    else if k = 5 then sameL l l'
    else if k = 6 then decide (m = m')
    else if 0 ≤ k ∧ k ≤ 7 then true
    else decide (p = p' ∧ n = n' ∧ m = m') && sameL l l'
def sameL : List Ty → List Ty → Bool
  | [], [] => true
  | a :: r, b :: s => sameT a b && sameL r s
  | _, _ => false
end
theorem sameL_all : ∀ (l m : List Ty), sameL l m = allL sameT l m
  | [], [] => rfl
  | [], _ :: _ => rfl
  | _ :: _, [] => rfl
  | a :: r, b :: s => by rw [sameL, allL, sameL_all r s]
/-- Each type, from within. -/
inductive TyAll : Ty → Prop where
  | mk (t : Ty) (hs : ∀ x ∈ t.f4, TyAll x) : TyAll t
mutual
theorem tyAll : ∀ t : Ty, TyAll t
  | ⟨k, p, n, m, l⟩ => .mk _ (tyAllL l)
theorem tyAllL : ∀ (l : List Ty), ∀ x ∈ l, TyAll x
  | [], _, h => by cases h
  | a :: r, x, h => by
    rcases List.mem_cons.1 h with e | h
    · rw [e]; exact tyAll a
    · exact tyAllL r x h
end
theorem ba_ne {x y : ByteArray} (h : ¬ x = y) : (x.toList == y.toList) = false := by
  rw [beq_eq_false_iff_ne]
  intro hh
  apply h
  rw [ByteArray.toList_eq, ByteArray.toList_eq] at hh
  apply ByteArray.ext
  exact Array.toList_inj.1 hh
theorem ba_neP {x y : ByteArray} (h : ¬ x = y) : ¬ x.toList = y.toList := beq_eq_false_iff_ne.1 (ba_ne h)

/-- The closure within Same: whether what the two types bear is the same. -/
theorem sameArgs_any {k : Int} {p n : ByteArray} {m : Int} {l : List Ty} {A : Option Addr} {c : Nat} {k' : Int} {p' n' : ByteArray} {m' : Int} {l' : List Ty} {B : Option Addr} {d : Nat} {g g' : Nat} {w : World}
    (hg : w.heap[g]? = some (.cells #[.int .i64 k, .string p, .string n, .int .i64 m, .slice A l.length c] 29 (0, 0))) (hg' : w.heap[g']? = some (.cells #[.int .i64 k', .string p', .string n', .int .i64 m', .slice B l'.length d] 29 (0, 0)))
    (hA : Kd.C kTy w A l.length l) (hB : Kd.C kTy w B l'.length l') (hc : l.length ≤ c) (hd : l'.length ≤ d)
    (hF : ∀ x ∈ l, ∀ y ∈ l', ∀ (A' B' : Option Addr) (c' d' : Nat) (W : World), Kd.C kTy W A' x.f4.length x.f4 → x.f4.length ≤ c' → Kd.C kTy W B' y.f4.length y.f4 → y.f4.length ≤ d' →
      Calls Try.prog 58 #[tyV x A' c', tyV y B' d'] W fun e W' => e = .returned (.bool (sameT x y)) ∧ Below W.heap.size W W') :
    Calls Try.prog 77 #[.pointer (some ⟨g, 0, none⟩), .pointer (some ⟨g', 0, none⟩)] w fun e w' => e = .returned (.bool (sameL l l')) ∧ Below w.heap.size w w' := by
  have x4 := (blk_cell hg 4).trans rfl
  have y4 := (blk_cell hg' 4).trans rfl
  have HC := Lib.hid (equalSame_any sameT A B c d l l' w hA hB hc hd hF)
  rw [sameL_all]
  clear hF hA hB hg hg' hc hd
  go_enter Try.func77, Try.ntmps77
  go_wp2_with (fail)
  refine HC.out.mono ?_
  rintro e w1 ⟨rfl, hb⟩
  have HB := Lib.hid hb
  clear hb
  go_wp2_with (fail)
  go_ret
  exact ⟨rfl, HB.out⟩

set_option maxRecDepth 100000 in
set_option maxHeartbeats 4000000 in
theorem same_any {a : Ty} (ha : TyAll a) : ∀ (b : Ty) (A B : Option Addr) (c d : Nat) (w : World), Kd.C kTy w A a.f4.length a.f4 → a.f4.length ≤ c → Kd.C kTy w B b.f4.length b.f4 → b.f4.length ≤ d →
    Calls Try.prog 58 #[tyV a A c, tyV b B d] w fun e w' => e = .returned (.bool (sameT a b)) ∧ Below w.heap.size w w' := by
  induction ha with
  | mk a hs ih =>
  intro b A B c d w hA hc hB hd
  obtain ⟨k, p, n, m, l⟩ := a
  obtain ⟨k', p', n', m', l'⟩ := b
  simp only at hA hc hB hd ih
  have HBB := Lib.hid (bel_alloc (bel_alloc (Below.refl w.heap.size w) (.cells #[.int .i64 k, .string p, .string n, .int .i64 m, .slice A l.length c] 29)) (.cells #[.int .i64 k', .string p', .string n', .int .i64 m', .slice B l'.length d] 29))
  have hw := bel_alloc (bel_alloc (Below.refl w.heap.size w) (.cells #[.int .i64 k, .string p, .string n, .int .i64 m, .slice A l.length c] 29)) (.cells #[.int .i64 k', .string p', .string n', .int .i64 m', .slice B l'.length d] 29)
  have HS := Lib.hid (sameArgs_any (blk_alloc (blk_new w (.cells #[.int .i64 k, .string p, .string n, .int .i64 m, .slice A l.length c] 29)) (.cells #[.int .i64 k', .string p', .string n', .int .i64 m', .slice B l'.length d] 29)) (show ((w.alloc (.cells #[.int .i64 k, .string p, .string n, .int .i64 m, .slice A l.length c] 29)).alloc (.cells #[.int .i64 k', .string p', .string n', .int .i64 m', .slice B l'.length d] 29)).heap[w.heap.size + 1]? = _ by simpa using blk_new (w.alloc (.cells #[.int .i64 k, .string p, .string n, .int .i64 m, .slice A l.length c] 29)) (.cells #[.int .i64 k', .string p', .string n', .int .i64 m', .slice B l'.length d] 29)) (Kd.C_below hA hw) (Kd.C_below hB hw) hc hd (fun x hx y hy A' B' c' d' W h1 h2 h3 h4 => ih x hx y A' B' c' d' W h1 h2 h3 h4))
  clear hA hB hs ih hw
  simp only [tyV]
  by_cases hk : k = k'
  · subst hk
    have t0 : (k != k) = false := by simp
    by_cases h4 : k = 4
    · have e4 : (k == 4) = true := by simp [h4]
      by_cases hp : p = p'
      · subst hp
        by_cases hn : n = n'
        · subst hn
          rw [show sameT ⟨k, p, n, m, l⟩ ⟨k, p, n, m', l'⟩ = true by simp [sameT, h4]]
          clear h4
          go_enter Try.func58, Try.ntmps58
          go_wp2_with (fail)
          go_ret
          exact ⟨rfl, HBB.out⟩
        · have s2 := ba_ne hn
          have s3 := ba_neP hn
          rw [show sameT ⟨k, p, n, m, l⟩ ⟨k, p, n', m', l'⟩ = false by simp [sameT, h4, hn]]
          clear h4 hn
          go_enter Try.func58, Try.ntmps58
          go_wp2_with (fail)
          go_ret
          exact ⟨rfl, HBB.out⟩
      · have s0 := ba_ne hp
        have s1 := ba_neP hp
        rw [show sameT ⟨k, p, n, m, l⟩ ⟨k, p', n', m', l'⟩ = false by simp [sameT, h4, hp]]
        clear h4 hp
        go_enter Try.func58, Try.ntmps58
        go_wp2_with (fail)
        go_ret
        exact ⟨rfl, HBB.out⟩
    · have e4 : (k == 4) = false := beq_eq_false_iff_ne.2 h4
      by_cases h5 : k = 5
      · have e5 : (k == 5) = true := by simp [h5]
        rw [show sameT ⟨k, p, n, m, l⟩ ⟨k, p', n', m', l'⟩ = sameL l l' by simp [sameT, h5]]
        clear h4 h5
        go_enter Try.func58, Try.ntmps58
        go_wp2_with (fail)
        refine HS.out.mono ?_
        rintro e w1 ⟨rfl, hb⟩
        have HB2 := Lib.hid (bel_trans HBB.out hb)
        clear hb
        go_wp2_with (fail)
        go_ret
        exact ⟨rfl, HB2.out⟩
      · have e5 : (k == 5) = false := beq_eq_false_iff_ne.2 h5
        by_cases h6 : k = 6
        · have e6 : (k == 6) = true := by simp [h6]
          by_cases hm : m = m'
          · subst hm
            rw [show sameT ⟨k, p, n, m, l⟩ ⟨k, p', n', m, l'⟩ = true by simp [sameT, h6]]
            clear h4 h5 h6
            go_enter Try.func58, Try.ntmps58
            go_wp2_with (fail)
            go_ret
            exact ⟨rfl, HBB.out⟩
          · have em : (m == m') = false := beq_eq_false_iff_ne.2 hm
            rw [show sameT ⟨k, p, n, m, l⟩ ⟨k, p', n', m', l'⟩ = false by simp [sameT, h6, hm]]
            clear h4 h5 h6
            go_enter Try.func58, Try.ntmps58
            go_wp2_with (fail)
            go_ret
            exact ⟨rfl, HBB.out⟩
        · have e6 : (k == 6) = false := beq_eq_false_iff_ne.2 h6
          by_cases h07 : 0 ≤ k ∧ k ≤ 7
          · obtain ⟨g0, g7⟩ := h07
            rw [show sameT ⟨k, p, n, m, l⟩ ⟨k, p', n', m', l'⟩ = true by simp [sameT, h4, h5, h6, g0, g7]]
            have G0 : decide (0 ≤ k) = true := decide_eq_true g0
            have G7 : decide (k ≤ 7) = true := decide_eq_true g7
            clear h4 h5 h6
            go_enter Try.func58, Try.ntmps58
            go_wp2_with (fail)
            go_ret
            exact ⟨rfl, HBB.out⟩
          · have hT : sameT ⟨k, p, n, m, l⟩ ⟨k, p', n', m', l'⟩ = (decide (p = p' ∧ n = n' ∧ m = m') && sameL l l') := by simp [sameT, h4, h5, h6, h07]
            have h07' : k < 0 ∨ 7 < k := by omega
            rw [hT]
            clear hT h4 h5 h6 h07
            rcases h07' with g | g
            · have G0 : decide (0 ≤ k) = false := decide_eq_false (by omega)
              have G1 : ¬ 0 ≤ k := by omega
              by_cases hp : p = p'
              · subst hp
                by_cases hn : n = n'
                · subst hn
                  by_cases hm : m = m'
                  · subst hm
                    go_enter Try.func58, Try.ntmps58
                    go_wp2_with (fail)
                    refine HS.out.mono ?_
                    rintro e w1 ⟨rfl, hb⟩
                    have HB2 := Lib.hid (bel_trans HBB.out hb)
                    clear hb
                    go_wp2_with (fail)
                    go_ret
                    exact ⟨by simp, HB2.out⟩
                  · have em : (m == m') = false := beq_eq_false_iff_ne.2 hm
                    rw [show (decide (p = p ∧ n = n ∧ m = m') && sameL l l') = false by simp [hm]]
                    go_enter Try.func58, Try.ntmps58
                    go_wp2_with (fail)
                    go_ret
                    exact ⟨rfl, HBB.out⟩
                · have s2 := ba_ne hn
                  have s3 := ba_neP hn
                  rw [show (decide (p = p ∧ n = n' ∧ m = m') && sameL l l') = false by simp [hn]]
                  clear hn
                  go_enter Try.func58, Try.ntmps58
                  go_wp2_with (fail)
                  go_ret
                  exact ⟨rfl, HBB.out⟩
              · have s0 := ba_ne hp
                have s1 := ba_neP hp
                rw [show (decide (p = p' ∧ n = n' ∧ m = m') && sameL l l') = false by simp [hp]]
                clear hp
                go_enter Try.func58, Try.ntmps58
                go_wp2_with (fail)
                go_ret
                exact ⟨rfl, HBB.out⟩
            · have G0 : decide (0 ≤ k) = true := decide_eq_true (by omega)
              have G2 : 0 ≤ k := by omega
              have G7 : decide (k ≤ 7) = false := decide_eq_false (by omega)
              have G1 : ¬ k ≤ 7 := by omega
              by_cases hp : p = p'
              · subst hp
                by_cases hn : n = n'
                · subst hn
                  by_cases hm : m = m'
                  · subst hm
                    go_enter Try.func58, Try.ntmps58
                    go_wp2_with (fail)
                    refine HS.out.mono ?_
                    rintro e w1 ⟨rfl, hb⟩
                    have HB2 := Lib.hid (bel_trans HBB.out hb)
                    clear hb
                    go_wp2_with (fail)
                    go_ret
                    exact ⟨by simp, HB2.out⟩
                  · have em : (m == m') = false := beq_eq_false_iff_ne.2 hm
                    rw [show (decide (p = p ∧ n = n ∧ m = m') && sameL l l') = false by simp [hm]]
                    go_enter Try.func58, Try.ntmps58
                    go_wp2_with (fail)
                    go_ret
                    exact ⟨rfl, HBB.out⟩
                · have s2 := ba_ne hn
                  have s3 := ba_neP hn
                  rw [show (decide (p = p ∧ n = n' ∧ m = m') && sameL l l') = false by simp [hn]]
                  clear hn
                  go_enter Try.func58, Try.ntmps58
                  go_wp2_with (fail)
                  go_ret
                  exact ⟨rfl, HBB.out⟩
              · have s0 := ba_ne hp
                have s1 := ba_neP hp
                rw [show (decide (p = p' ∧ n = n' ∧ m = m') && sameL l l') = false by simp [hp]]
                clear hp
                go_enter Try.func58, Try.ntmps58
                go_wp2_with (fail)
                go_ret
                exact ⟨rfl, HBB.out⟩
  · have t0 : (k != k') = true := by simp [hk]
    have t1 : (k == k') = false := beq_eq_false_iff_ne.2 hk
    rw [show sameT ⟨k, p, n, m, l⟩ ⟨k', p', n', m', l'⟩ = false by simp [sameT, hk]]
    go_enter Try.func58, Try.ntmps58
    go_wp2_with (fail)
    go_ret
    exact ⟨rfl, HBB.out⟩
end Go.Proofs.Ytbhagjhhgmmcgaa
