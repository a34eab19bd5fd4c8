/- awake. -/
import Derived.Test.YtnafeapbglflnaaDkN
namespace Go.Proofs.Ytnafeapbglflnaa
open Go.RowKit PRef Go.Proofs.YtnafeapbglflnaaW.PrintWords
set_option linter.unusedVariables false

theorem C_row {α : Type} {d : Kd α} {enc : α → List Value} {w : World} {l : List α} (hlen : ∀ x, (enc x).length = d.sz) (hK : ∀ x ∈ l, d.K w x (enc x)) {g : Nat} {cs : Array Value} {t : TypeId} {fr : Nat × Nat}
    (hb : w.heap[g]? = some (.cells cs t fr)) (hcs : cs.toList = l.flatMap enc) (hl : l.length ≤ maxLen) : Kd.C d w (some ⟨g, 0, none⟩) l.length l := by
  refine ⟨rfl, by simp only [maxLen] at hl; omega, fun _ => ⟨_, rfl, fun j p hp => ⟨enc p, hlen p, hK p (List.mem_of_getElem? hp), fun i u hu => ?_⟩⟩⟩
  have hi : i < d.sz := by
    rw [← hlen p]
    exact (List.getElem?_eq_some_iff.1 hu).1
  rw [Addr.add_lit, Nat.zero_add, blk_cell hb, ← Array.getElem?_toList, hcs]
  exact (flat_at enc d.sz hlen l j i p hp hi).trans hu

def xB : ByteArray := ⟨#[120]⟩
def dB : S43 := ⟨⟨#[98]⟩, false, ⟨#[]⟩⟩

set_option maxRecDepth 100000 in
set_option maxHeartbeats 2000000 in
theorem awake_any (w : World) : Calls Try.prog 9 #[] w fun e w' => e = .returned (.bool true) ∧ Below w.heap.size w w' := by
  obtain ⟨K, hk, hs, hz⟩ : ∃ K : ByteArray, keyF ⟨#[120]⟩ [⟨⟨#[98]⟩, false, ⟨#[]⟩⟩] = (K, 0) ∧ splitF K = (⟨#[120]⟩, [⟨⟨#[98]⟩, false, ⟨#[]⟩⟩], 0) ∧ K.size = 19 := by
    refine ⟨mkB (keyB ⟨#[120]⟩ [⟨⟨#[98]⟩, false, ⟨#[]⟩⟩]), ?_, split_mk _ _ (by decide) (by decide) ?_, ?_⟩
    · unfold keyF
      have hb : bareP ⟨⟨#[98]⟩, false, ⟨#[]⟩⟩ = false := by unfold bareP; rw [bytes_empty rfl]; rfl
      rw [if_neg (by simp [hb])]
      rfl
    · intro d hd
      simp only [List.mem_singleton] at hd
      subst hd
      exact ⟨by decide, by decide, by unfold bareP; rw [bytes_empty rfl]; rfl⟩
    · rw [mkB_size]; rfl
  obtain ⟨P, hp, hu, hy⟩ : ∃ P : ByteArray, packF [⟨3, 5⟩] false ⟨#[]⟩ = (P, 0) ∧ unpackF P = ([⟨3, 5⟩], false, ⟨#[]⟩, 0) ∧ P.size = 17 := by
    have hbad : packBad [⟨3, 5⟩] false ⟨#[]⟩ = false := by unfold packBad; rw [bytes_empty rfl]; decide
    refine ⟨mkB (packB [⟨3, 5⟩] false ⟨#[]⟩), ?_, unpack_mk _ _ _ (by decide) hbad, ?_⟩
    · unfold packF
      rw [hbad]
      rfl
    · rw [mkB_size]; rfl
  have hE : splitF ⟨#[]⟩ = (⟨#[]⟩, [], 170) := by
    have h1 : (numF ⟨#[]⟩ true).2.2 = false := by decide
    have hm : (manyF (rtextF ⟨#[]⟩ true).2.1 (rtextF ⟨#[]⟩ true).2.2).2.2 = false := by rw [rtextF_false _ _ h1, manyF_false]
    unfold splitF
    simp only
    rw [hm, depsF_false, if_neg (by simp)]
  have HZ := Lib.hid hz
  have HY := Lib.hid hy
  have hC1 := key_c ⟨#[120]⟩ [⟨⟨#[98]⟩, false, ⟨#[]⟩⟩] (some ⟨w.heap.size, 0, none⟩) 1 (w.alloc (.cells #[.string ⟨#[98]⟩, .bool false, .string ⟨#[]⟩] 43)) ⟨by decide, .inr ⟨by decide, by intro d hd; simp only [List.mem_singleton] at hd; subst hd; exact ⟨by decide, by decide⟩⟩⟩ (C_row (enc := depCs) (fun _ => rfl) (fun x _ => k43_mk _ x) (blk_new w _) rfl (by decide))
  rw [hk] at hC1
  have HC1 := Lib.hid hC1
  have hC2 := fun W => split_any K W
  simp only [hs] at hC2
  have HC2 := Lib.hid hC2
  have hC3 := fun W => pack_c [⟨3, 5⟩] false ⟨#[]⟩ (some ⟨W.heap.size, 0, none⟩) 1 (W.alloc (.cells #[.int .i64 3, .int .i64 5] 45)) (by decide) (C_row (enc := diagCs) (fun _ => rfl) (fun x _ => k45_mk _ x) (blk_new W _) rfl (by decide))
  rw [hp] at hC3
  have HC3 := Lib.hid hC3
  have hC4 := fun W => unpack_any P W
  simp only [hu] at hC4
  have HC4 := Lib.hid hC4
  have hC5 := fun W => split_any ⟨#[]⟩ W
  simp only [hE] at hC5
  have HC5 := Lib.hid hC5
  have HA := Lib.hid (bel_alloc (Below.refl w.heap.size w) (.cells #[.string ⟨#[98]⟩, .bool false, .string ⟨#[]⟩] 43))
  clear hk hs hz hp hu hy hE hC1 hC2 hC3 hC4 hC5
  go_enter Try.func9, Try.ntmps9
  go_wp2_with (fail)
  refine HC1.out.mono ?_
  rintro e w1 ⟨rfl, hb1⟩
  have HB1 := Lib.hid (bel_trans HA.out hb1)
  clear hb1 HC1 HA
  go_wp2_with (fail)
  refine (HC2.out w1).mono ?_
  rintro e w2 ⟨A2, c2, rfl, _, hL, hb2⟩
  have HB2 := Lib.hid (bel_trans HB1.out hb2)
  have HL := Lib.hid hL
  clear hb2 hL HC2 HB1
  go_wp2_with (fail)
  refine (HC3.out w2).mono ?_
  rintro e w3 ⟨rfl, hb3⟩
  have HB3 := Lib.hid (bel_trans (bel_alloc (Below.refl _ _) _) hb3)
  clear hb3 HC3
  go_wp2_with (fail)
  refine (HC4.out w3).mono ?_
  rintro e w4 ⟨A4, c4, rfl, _, hM, hb4⟩
  have HM := Lib.hid hM
  have HB4 := Lib.hid (bel_trans HB3.out hb4)
  clear hb4 hM HC4 HB3
  go_wp2_with (fail)
  refine (HC5.out _).mono ?_
  rintro e w5 ⟨A5, c5, rfl, _, _, hb5⟩
  have HB5 := Lib.hid (bel_trans HB2.out (bel_trans (bel_alloc HB4.out (.cells #[.slice A4 1 c4, .bool false, .string ⟨#[]⟩] 34)) hb5))
  have ho := blk_later hb5 (blk_new w4 (.cells #[.slice A4 1 c4, .bool false, .string ⟨#[]⟩] 34))
  have o0 : w5.cell? ⟨w4.heap.size, 0, none⟩ = some (.slice A4 1 c4) := (blk_cell ho 0).trans rfl
  obtain ⟨a2, rfl, x0, _, _⟩ := at_T43 (Kd.C_below HL.out (bel_trans (bel_alloc HB4.out (.cells #[.slice A4 1 c4, .bool false, .string ⟨#[]⟩] 34)) hb5)) 0 (by omega) (by simp)
  obtain ⟨a4, rfl, _, y1⟩ := at_T45 (Kd.C_below HM.out (bel_trans (bel_alloc (Below.refl _ _) (.cells #[.slice A4 1 c4, .bool false, .string ⟨#[]⟩] 34)) hb5)) 0 (by omega) (by simp)
  have x0' : w5.cell? a2 = some (.string ⟨#[98]⟩) := by rw [← Addr.add_zero' a2]; exact x0
  have y1' : w5.cell? ⟨a4.block, a4.off + 1, none⟩ = some (.int .i64 5) := by have h := y1; rw [show Int.toNat 0 * 2 = 0 from rfl, Addr.add_zero'] at h; exact h
  have hz' := HZ.out
  have hy' := HY.out
  clear hb5 ho HC5 HB2 HB4 HL HM x0 y1
  go_wp2_with (fail)
  go_ret
  exact ⟨rfl, HB5.out⟩
end Go.Proofs.Ytnafeapbglflnaa
