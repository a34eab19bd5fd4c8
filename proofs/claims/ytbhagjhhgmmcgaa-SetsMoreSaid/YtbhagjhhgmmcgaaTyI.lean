/- sets.Alike: whether two types may be the same. -/
import Derived.Test.YtbhagjhhgmmcgaaTyH
namespace Go.Proofs.Ytbhagjhhgmmcgaa
open Go.RowKit PRef Go.Proofs.YtbhagjhhgmmcgaaW.PrintWords
set_option linter.unusedVariables false

mutual
def alikeT : Ty → Ty → Bool
  | ⟨k, p, n, m, l⟩, ⟨k', p', n', m', l'⟩ =>
    if k = 0 then true
    else if k' = 0 then true
    else if k = 5 ∧ k' = 5 then alikeL l l'
    else sameT ⟨k, p, n, m, l⟩ ⟨k', p', n', m', l'⟩
def alikeL : List Ty → List Ty → Bool
  | [], [] => true
  | a :: r, b :: s => alikeT a b && alikeL r s
  | _, _ => false
end
theorem alikeL_all : ∀ (l m : List Ty), alikeL l m = allL alikeT l m
  | [], [] => rfl
  | [], _ :: _ => rfl
  | _ :: _, [] => rfl
  | a :: r, b :: s => by rw [alikeL, allL, alikeL_all r s]

set_option maxRecDepth 100000 in
set_option maxHeartbeats 4000000 in
theorem alike_any {a : Ty} (ha : TyAll a) : ∀ (b : Ty) (A B : Option Addr) (c d : Nat) (w : World), Kd.C kTy w A a.f4.length a.f4 → a.f4.length ≤ c → Kd.C kTy w B b.f4.length b.f4 → b.f4.length ≤ d →
    Calls Try.prog 27 #[tyV a A c, tyV b B d] w fun e w' => e = .returned (.bool (alikeT a b)) ∧ Below w.heap.size w w' := by
  induction ha with
  | mk a hs ih =>
  intro b A B c d w hA hc hB hd
  have HSAME := Lib.hid (fun W (hb : Below w.heap.size w W) => same_any (tyAll a) b A B c d W (Kd.C_below hA hb) hc (Kd.C_below hB hb) hd)
  obtain ⟨k, p, n, m, l⟩ := a
  obtain ⟨k', p', n', m', l'⟩ := b
  simp only at hA hc hB hd ih
  have HBB := Lib.hid (bel_alloc (bel_alloc (Below.refl w.heap.size w) (.cells #[.int .i64 k, .string p, .string n, .int .i64 m, .slice A l.length c] 29)) (.cells #[.int .i64 k', .string p', .string n', .int .i64 m', .slice B l'.length d] 29))
  have HL := Lib.hid (fun W (hb : Below w.heap.size w W) => equalAlike_any alikeT A B c d l l' W (Kd.C_below hA hb) (Kd.C_below hB hb) hc hd (fun x hx y hy A' B' c' d' W h1 h2 h3 h4 => ih x hx y A' B' c' d' W h1 h2 h3 h4))
  rw [← alikeL_all] at HL
  clear hA hB hs ih hc hd
  simp only [tyV] at *
  by_cases h0 : k = 0
  · have e0 : (k == 0) = true := by simp [h0]
    rw [show alikeT ⟨k, p, n, m, l⟩ ⟨k', p', n', m', l'⟩ = true by simp [alikeT, h0]]
    clear h0
    go_enter Try.func27, Try.ntmps27
    go_wp2_with (fail)
    go_ret
    exact ⟨rfl, HBB.out⟩
  · have e0 : (k == 0) = false := beq_eq_false_iff_ne.2 h0
    by_cases h0' : k' = 0
    · have e0' : (k' == 0) = true := by simp [h0']
      rw [show alikeT ⟨k, p, n, m, l⟩ ⟨k', p', n', m', l'⟩ = true by simp [alikeT, h0']]
      clear h0 h0'
      go_enter Try.func27, Try.ntmps27
      go_wp2_with (fail)
      go_ret
      exact ⟨rfl, HBB.out⟩
    · have e0' : (k' == 0) = false := beq_eq_false_iff_ne.2 h0'
      by_cases h5 : k = 5
      · have e5 : (k == 5) = true := by simp [h5]
        by_cases h5' : k' = 5
        · have e5' : (k' == 5) = true := by simp [h5']
          rw [show alikeT ⟨k, p, n, m, l⟩ ⟨k', p', n', m', l'⟩ = alikeL l l' by simp [alikeT, h5, h5']]
          clear h0 h0' h5 h5'
          go_enter Try.func27, Try.ntmps27
          go_wp2_with (fail)
          refine (HL.out _ HBB.out).mono ?_
          rintro e w1 ⟨rfl, hb⟩
          have HB2 := Lib.hid (bel_trans HBB.out hb)
          clear hb
          go_wp2_with (fail)
          go_ret
          exact ⟨rfl, HB2.out⟩
        · have e5' : (k' == 5) = false := beq_eq_false_iff_ne.2 h5'
          rw [show alikeT ⟨k, p, n, m, l⟩ ⟨k', p', n', m', l'⟩ = sameT ⟨k, p, n, m, l⟩ ⟨k', p', n', m', l'⟩ by simp [alikeT, h0, h0', h5']]
          clear h0 h0' h5 h5'
          go_enter Try.func27, Try.ntmps27
          go_wp2_with (fail)
          refine (HSAME.out _ HBB.out).mono ?_
          rintro e w1 ⟨rfl, hb⟩
          have HB2 := Lib.hid (bel_trans HBB.out hb)
          clear hb
          go_wp2_with (fail)
          go_ret
          exact ⟨rfl, HB2.out⟩
      · have e5 : (k == 5) = false := beq_eq_false_iff_ne.2 h5
        rw [show alikeT ⟨k, p, n, m, l⟩ ⟨k', p', n', m', l'⟩ = sameT ⟨k, p, n, m, l⟩ ⟨k', p', n', m', l'⟩ by simp [alikeT, h0, h0', h5]]
        clear h0 h0' h5
        go_enter Try.func27, Try.ntmps27
        go_wp2_with (fail)
        refine (HSAME.out _ HBB.out).mono ?_
        rintro e w1 ⟨rfl, hb⟩
        have HB2 := Lib.hid (bel_trans HBB.out hb)
        clear hb
        go_wp2_with (fail)
        go_ret
        exact ⟨rfl, HB2.out⟩
end Go.Proofs.Ytbhagjhhgmmcgaa
