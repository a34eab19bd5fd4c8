/- The walk of the document's Key. -/
import Derived.Test.YtnafeapbglflnaaDkG
namespace Go.Proofs.Ytnafeapbglflnaa
open Go.RowKit PRef Go.Proofs.YtnafeapbglflnaaW.PrintWords
set_option linter.unusedVariables false

theorem own_bytes {base : Nat} {xs : List UInt8} {v : Value} {w : World} (hown : w.ownsRow base 5 1 v xs.length (u8s xs)) : ∃ A c, v = .slice A xs.length c ∧ (convert 49 9 (.slice A xs.length c)).run Try.prog w = .ok (.string ⟨xs.toArray⟩) w := by
  rcases hown.2 with ⟨rfl, h0⟩ | ⟨g2, cap, cur, rfl, _⟩
  · have hx : xs = [] := List.eq_nil_of_length_eq_zero h0
    subst hx
    exact ⟨none, 0, rfl, run_convert_bytes_nil w 49 5 Try.underlying49 Try.underlying5 0 0 9 Try.underlying9⟩
  · refine ⟨_, cap, rfl, ?_⟩
    have hcs := hown.cells (g := g2) rfl
    have hr := run_convert_bytes_arg (P := Try.prog) w 49 5 Try.underlying49 Try.underlying5 g2 0 xs.length cap (xs.map fun b => (b.toNat : Int)) (by simp) (fun i hi => by
      have h1 := hcs i (.int .u8 (xs[i].toNat : Int)) (by simp [u8s, List.getElem?_eq_getElem hi])
      rw [Addr.add_lit] at h1
      rw [h1]
      simp [List.getD_eq_getElem?_getD, List.getElem?_eq_getElem hi]) 9 Try.underlying9
    rw [hr]
    congr 2
    simp only [strOfNums, List.map_map]
    congr 2
    rw [show ((fun n : Int => UInt8.ofNat n.toNat) ∘ fun b : UInt8 => (b.toNat : Int)) = id from funext fun b => by simp]
    simp

theorem qkey_big (s : ByteArray) (l : List S43) (A : Option Addr) (c : Nat) (w : World) (hl : 5000 < l.length) :
    Calls Try.prog 12 #[.string s, .slice A l.length c] w fun e w' => e = .returned (.tuple #[.string (keyF s l).1, .int .i64 (keyF s l).2]) ∧ Below w.heap.size w w' := by
  have HE : Hid (keyF s l = (⟨#[]⟩, 170)) := Lib.hid (by unfold keyF; rw [if_pos (.inl hl)])
  have hd : decide ((5000 : Int) < l.length) = true := decide_eq_true (by omega)
  go_enter Try.func12, Try.ntmps12
  go_wp2_with (fail)
  go_ret2
  rw [HE.out]
  exact ⟨rfl, Below.refl _ _⟩

set_option maxRecDepth 100000 in
set_option maxHeartbeats 2000000 in
theorem qkey_small (s : ByteArray) (l : List S43) (A : Option Addr) (c : Nat) (w : World) (h : Kd.C k43 w A l.length l) (hs : s.size ≤ 100000) (hl : l.length ≤ 200) (hsm : ∀ d ∈ l, smallDep d) :
    Calls Try.prog 12 #[.string s, .slice A l.length c] w fun e w' => e = .returned (.tuple #[.string (keyF s l).1, .int .i64 (keyF s l).2]) ∧ Below w.heap.size w w' := by
  have hd : decide ((5000 : Int) < l.length) = false := decide_eq_false (by omega)
  have HE0 : Hid (l.any bareP = true → keyF s l = (⟨#[]⟩, 170)) := Lib.hid (fun hb => by unfold keyF; rw [if_pos (.inr hb)])
  have HE1 : Hid (l.any bareP = false → keyF s l = (⟨(keyB s l).toArray⟩, 0)) := Lib.hid (fun hb => by unfold keyF; rw [if_neg (by rw [hb]; rintro (h | h); omega; cases h)])
  have HH := Lib.hid h
  have HSM := Lib.hid hsm
  clear h hsm
  go_enter Try.func12, Try.ntmps12
  go_wp2_with (fail)
  go_loop [6] (fun iv => ∃ k : Nat, k ≤ l.length ∧ iv = .int .i64 k ∧ Hid ((l.take k).any bareP = false)) (fun iv => l.length - (intOf iv).toNat)
  case atStart => exact ⟨0, Nat.zero_le _, rfl, rfl⟩
  case round =>
    obtain ⟨k, hk, rfl, hany⟩ := hrel
    by_cases hlt : k < l.length
    · obtain ⟨ad, rfl, c0, c1, c2⟩ := at_T43 HH.out k (by omega) (by omega)
      rw [Int.toNat_natCast] at c0 c1 c2
      have e1 : 0 ≤ (k : Int) := by omega
      have e2 : (k : Int) < l.length := by omega
      have HX : Hid (rd_T43 l k = l.getD k z43) := Lib.hid (by unfold rd_T43; rw [Int.toNat_natCast])
      have HA := Lib.hid (any_take l z43 bareP k hlt)
      generalize rd_T43 l k = x at *
      have HP : Hid (bareP x = (!x.f1 && !x.f2.toList.isEmpty)) := Lib.hid rfl
      obtain ⟨x0, x1, x2⟩ := x
      simp only at c0 c1 c2 HP
      cases x1 with
      | true =>
        go_wp2_with (fail)
        go_round
        case rel => exact ⟨k + 1, by omega, by go_num, Lib.hid (by rw [HA.out, hany.out, ← HX.out, HP.out]; rfl)⟩
        case measure => simp [intOf]; omega
      | false =>
        cases hx2 : x2.toList.isEmpty with
        | true =>
          go_wp2_with (fail)
          go_round
          case rel => exact ⟨k + 1, by omega, by go_num, Lib.hid (by rw [HA.out, hany.out, ← HX.out, HP.out]; simp [hx2])⟩
          case measure => simp [intOf]; omega
        | false =>
          have HE := Lib.hid (HE0.out (any_of_take l bareP (k + 1) (by rw [HA.out, ← HX.out, HP.out]; simp [hx2])))
          go_wp2_with (fail)
          go_ret2
          rw [HE.out]
          exact ⟨rfl, Below.refl _ _⟩
    · obtain rfl : k = l.length := by omega
      have HE := Lib.hid (HE1.out (by rw [← List.take_length (l := l), hany.out]))
      clear hany
      have HC1 := Lib.hid (qtext_any s w.heap.size [] (.slice none 0 0) w (by omega) (World.ownsRow_nil _ _ _ _) (by simp) (Nat.le_refl _))
      go_wp2_with (fail)
      refine HC1.out.mono ?_
      rintro e w2 ⟨v2, rfl, hown2, hk2⟩
      have HB2 := Lib.hid (RS.below hk2 (Nat.le_refl _))
      have hlen1 : ([] ++ tx s).length ≤ 100004 := by simp [tx, be4_length]; omega
      have HC2 := Lib.hid (qnum_any l.length w.heap.size _ v2 w2 (by omega) hown2 (by omega) hk2.size)
      clear hown2 hk2 hlen1 HC1
      go_wp2_with (fail)
      refine HC2.out.mono ?_
      rintro e w3 ⟨v3, rfl, hown3, hk3⟩
      have HB3 := Lib.hid (HB2.out.trans (RS.below hk3 HB2.out.size))
      have HO3 := Lib.hid (show w3.ownsRow w.heap.size 5 1 v3 (tx s ++ be4 l.length ++ (l.take 0).flatMap depB).length (u8s (tx s ++ be4 l.length ++ (l.take 0).flatMap depB)) by simpa using hown3)
      clear hown3 hk3 HC2 HB2
      go_wp2_with (fail)
      go_loopw [7, 8] (fun bv iv wr => ∃ k : Nat, k ≤ l.length ∧ iv = .int .i64 k ∧ Hid (wr.ownsRow w.heap.size 5 1 bv (tx s ++ be4 l.length ++ (l.take k).flatMap depB).length (u8s (tx s ++ be4 l.length ++ (l.take k).flatMap depB))) ∧ Hid (Below w.heap.size w wr)) (fun _ iv _ => l.length - (intOf iv).toNat)
      case atStart => exact ⟨0, Nat.zero_le _, rfl, HO3, HB3⟩
      case round =>
        obtain ⟨k, hk, rfl, hW, hbw⟩ := hrel
        clear HO3 HB3
        by_cases hlt : k < l.length
        · obtain ⟨ad, rfl, k0, k1, k2⟩ := at_T43 HH.out k (by omega) (by omega)
          rw [Int.toNat_natCast] at k0 k1 k2
          have e1 : 0 ≤ (k : Int) := by omega
          have e2 : (k : Int) < l.length := by omega
          have hx : rd_T43 l k = l.getD k z43 := by unfold rd_T43; rw [Int.toNat_natCast]
          have hm : l.getD k z43 ∈ l := by rw [List.getD_eq_getElem?_getD, List.getElem?_eq_getElem hlt]; exact List.getElem_mem hlt
          have ht : (l.take (k + 1)).flatMap depB = (l.take k).flatMap depB ++ depB (l.getD k z43) := by
            rw [List.take_succ_eq_append_getElem hlt, List.flatMap_append]
            simp [List.getD_eq_getElem?_getD, List.getElem?_eq_getElem hlt]
          have hsd := HSM.out _ hm
          have hlen : (tx s ++ be4 l.length ++ (l.take k).flatMap depB).length ≤ 3000000 := by
            have h1 := deps_length (l.take k) (fun d hd => HSM.out d (List.mem_of_mem_take hd))
            have h2 : (l.take k).length ≤ 200 := by simp; omega
            simp only [List.length_append, tx, be4_length, Array.length_toList]
            have : s.data.size = s.size := rfl
            omega
          rw [← hx] at hm ht hsd
          have HT := Lib.hid ht
          clear hx hm ht
          generalize rd_T43 l k = x at *
          have HBL := Lib.hid (World.block_lt_of_cell? w _ k0)
          have K0 := Lib.hid k0
          have K1 := Lib.hid k1
          have K2 := Lib.hid k2
          clear k0 k1 k2
          have c0 := (hbw.out.cell (p := ad.add (k * 3)) HBL.out).trans K0.out
          have c1 := (hbw.out.cell (p := ⟨(ad.add (k * 3)).block, (ad.add (k * 3)).off + 1, none⟩) HBL.out).trans K1.out
          have c2 := (hbw.out.cell (p := ⟨(ad.add (k * 3)).block, (ad.add (k * 3)).off + 2, none⟩) HBL.out).trans K2.out
          obtain ⟨n1, n2⟩ := hsd
          generalize hxs : tx s ++ be4 l.length ++ (l.take k).flatMap depB = xs at *
          have HXS := Lib.hid hxs
          clear hxs
          have hlw : w.heap.size ≤ wr.heap.size := hbw.out.size
          have hl1 : (xs ++ tx x.f0).length ≤ 3001004 := by simp only [List.length_append, tx, be4_length, Array.length_toList]; have : x.f0.data.size = x.f0.size := rfl; omega
          have hl2 : (xs ++ tx x.f0 ++ fl x.f1).length ≤ 3001005 := by rw [List.length_append, fl_length]; omega
          have HD1 := Lib.hid (qtext_any x.f0 w.heap.size xs _ wr.drew (by omega) hW.out (by omega) hlw)
          have HD2 := Lib.hid (fun v W h1 h2 => qflag_any x.f1 w.heap.size (xs ++ tx x.f0) v W h1 (by omega) h2)
          have HD3 := Lib.hid (fun v W h1 h2 => qtext_any x.f2 w.heap.size (xs ++ tx x.f0 ++ fl x.f1) v W (by omega) h1 (by omega) h2)
          clear hl1 hl2 hlen
          go_wp2_with (fail)
          go_region_held3 (fun w' => w'.cell? (ad.add (k * 3)) = some (.string x.f0) ∧ w'.cell? ⟨(ad.add (k * 3)).block, (ad.add (k * 3)).off + 1, none⟩ = some (.bool x.f1) ∧ w'.cell? ⟨(ad.add (k * 3)).block, (ad.add (k * 3)).off + 2, none⟩ = some (.string x.f2))
            (first
              | exact ⟨r0, r1, r2⟩
              | exact ⟨g0, g1, g2⟩
              | exact ⟨d0, d1, d2⟩
              | exact ⟨c0, c1, c2⟩)
            (first
              | (refine (HD3.out _ _ HO5.out hle5).mono ?_; rintro e w6 ⟨v6, rfl, hown6, hk6⟩; have HO6 := Lib.hid hown6; have hb6 := HB5.out.trans (RS.below hk6 HB5.out.size); have HB6 := Lib.hid hb6; have r0 := (hb6.cell (p := ad.add (k * 3)) HBL.out).trans K0.out; have r1 := (hb6.cell (p := ⟨(ad.add (k * 3)).block, (ad.add (k * 3)).off + 1, none⟩) HBL.out).trans K1.out; have r2 := (hb6.cell (p := ⟨(ad.add (k * 3)).block, (ad.add (k * 3)).off + 2, none⟩) HBL.out).trans K2.out; clear hown6 hk6 hb6)
              | (refine (HD2.out _ _ HO4.out hle4).mono ?_; rintro e w5 ⟨v5, rfl, hown5, hk5⟩; have HO5 := Lib.hid hown5; have hb5 := HB4.out.trans (RS.below hk5 HB4.out.size); have HB5 := Lib.hid hb5; have hle5 := hb5.size; have g0 := (hb5.cell (p := ad.add (k * 3)) HBL.out).trans K0.out; have g1 := (hb5.cell (p := ⟨(ad.add (k * 3)).block, (ad.add (k * 3)).off + 1, none⟩) HBL.out).trans K1.out; have g2 := (hb5.cell (p := ⟨(ad.add (k * 3)).block, (ad.add (k * 3)).off + 2, none⟩) HBL.out).trans K2.out; clear hown5 hk5 hb5)
              | (refine HD1.out.mono ?_; rintro e w4 ⟨v4, rfl, hown4, hk4⟩; have HO4 := Lib.hid hown4; have hb4 := (bel_drew' hbw.out).trans (RS.below hk4 hbw.out.size); have HB4 := Lib.hid hb4; have hle4 := hb4.size; have d0 := (hb4.cell (p := ad.add (k * 3)) HBL.out).trans K0.out; have d1 := (hb4.cell (p := ⟨(ad.add (k * 3)).block, (ad.add (k * 3)).off + 1, none⟩) HBL.out).trans K1.out; have d2 := (hb4.cell (p := ⟨(ad.add (k * 3)).block, (ad.add (k * 3)).off + 2, none⟩) HBL.out).trans K2.out; clear hown4 hk4 hb4))
          go_wp2_with (fail)
          go_roundw
          case rel =>
            refine ⟨k + 1, by omega, by go_num, Lib.hid ?_, HB6⟩
            rw [HT.out, ← List.append_assoc, HXS.out]
            simpa [depB, List.append_assoc] using HO6.out
          case measure => simp [intOf]; omega
        · obtain rfl : k = l.length := by omega
          obtain ⟨A2, c2, rfl, hcv⟩ := own_bytes hW.out
          have HK : Hid (tx s ++ be4 l.length ++ (l.take l.length).flatMap depB = keyB s l) := Lib.hid (by rw [List.take_length]; rfl)
          clear hW
          generalize tx s ++ be4 l.length ++ (l.take l.length).flatMap depB = xs at *
          go_wp2
          go_ret2
          rw [HE.out, ← HK.out]
          exact ⟨rfl, hbw.out⟩
end Go.Proofs.Ytnafeapbglflnaa
