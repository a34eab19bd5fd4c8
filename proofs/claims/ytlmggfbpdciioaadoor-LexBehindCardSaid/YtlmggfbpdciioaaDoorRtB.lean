/- The document's token: what it hands back. -/
import Derived.Test.YtlmggfbpdciioaaDoorRtA
namespace Go.Proofs.YtlmggfbpdciioaaDoor
open Go.RowKit PRef Go.Proofs.YtlmggfbpdciioaaDoorW.PrintWords
set_option linter.unusedVariables false

theorem rkd_of {r : Nat × Nat × Nat} {kd x : Nat} (h1 : r.1 = kd) (hx : r.2.2 = x) (hn : x ≠ 1) : rkd r = kd := by
  unfold rkd
  rw [hx, if_neg hn, h1]
theorem ren_of {r : Nat × Nat × Nat} {L x : Nat} (a : Nat) (h1 : r.2.1 = L) (hx : r.2.2 = x) (hn : x ≠ 1) (hn3 : x ≠ 3) : ren r a = ((a + L : Nat) : Int) := by
  unfold ren
  rw [hx, if_neg hn3, if_neg hn, h1]
set_option maxHeartbeats 2000000 in
theorem rtoken_letter (s : ByteArray) (hs : s.size ≤ 9223372036854775806) (a : Nat) (ha : a < s.size) (w : World) (hl : letterB s[a] = true) :
    Calls Tryd.prog 28 #[.string s, .int .i64 (a : Int)] w (RPost (tokC s[a] (s.data.toList.drop (a + 1))) a w) := by
  have hp : partB s[a] = true := by unfold partB; rw [hl]; rfl
  have hd := drop_at s a ha
  have hwh := wh_cons partB s[a] (s.data.toList.drop (a + 1))
  rw [if_pos hp] at hwh
  have hle := wh_le partB (s.data.toList.drop (a + 1))
  rw [List.length_drop, len_toList] at hle
  have htok : tokC s[a] (s.data.toList.drop (a + 1)) = (if wordB (s[a] :: (s.data.toList.drop (a + 1)).take (wh partB (s.data.toList.drop (a + 1)))) then 5 else 1, wh partB (s.data.toList.drop (a + 1)) + 1, if wh partB (s.data.toList.drop (a + 1)) + 1 > 40 then 4 else 0) := by
    unfold tokC
    rw [if_pos hl]
  have hx : ∀ m, (s.extract a (a + (m + 1))).data.toList = s[a] :: (s.data.toList.drop (a + 1)).take m := by
    intro m
    rw [Lib.extract_data, hd, show a + (m + 1) - a = m + 1 by omega, List.take_succ_cons]
  have hW := rname_c s hs a (by omega)
  rw [hd, hwh] at hW
  rw [htok]
  generalize wh partB (s.data.toList.drop (a + 1)) = m at *
  have hx := hx m
  obtain ⟨k, hk⟩ : ∃ k, k = a + (m + 1) := ⟨_, rfl⟩
  rw [← hk] at hW hx
  rw [← hx]
  have hL := rletter_c s[a]
  rw [hl] at hL
  have hD := rdigit_c s[a]
  have hI := rin_c s[a]
  have hWd := rword_c (s.extract a k)
  have HL := Lib.hid hL
  have HD := Lib.hid hD
  have HI := Lib.hid hI
  have HW := Lib.hid hW
  have hks : k ≤ s.size := by omega
  have hka : a < k := by omega
  have hm40 : m + 1 > 40 ↔ 40 < k - a := by omega
  simp only [hm40]
  generalize wordB (s.extract a k).data.toList = wb at *
  have HWD := Lib.hid hWd
  obtain ⟨r, hr⟩ : ∃ r, r = (if wb = true then 5 else 1, m + 1, if 40 < k - a then 4 else 0) := ⟨_, rfl⟩
  rw [← hr]
  have HR := Lib.hid hr
  have HK := Lib.hid hk
  clear hL hD hI hW hWd hx hwh hd htok hp hl hk hm40 hle hr
  clear hx
  generalize digitB s[a] = db at *
  generalize decide (s[a] ∈ symsL) = sb at *
  cases wb
  · by_cases h40 : (40 : Int) < (k : Int) - (a : Int)
    · go_enter Tryd.func28, Tryd.ntmps28
      go_wp2_with (first | (go_at_call 39; refine (HL.out _).mono ?_; rintro e w' ⟨rfl, rfl⟩) | (go_at_call 40; refine (HD.out _).mono ?_; rintro e w' ⟨rfl, rfl⟩) | (go_at_call 41; refine (HI.out _).mono ?_; rintro e w' ⟨rfl, rfl⟩) | (go_at_call 42; refine (HW.out _).mono ?_; rintro e w' ⟨rfl, rfl⟩))
      refine (HWD.out _).mono ?_
      rintro e w5 ⟨rfl, hb5⟩
      have HB5 := Lib.hid (bel_trans (bel_alloc (bel_alloc (Below.refl w.heap.size w) _) _) hb5)
      have hg0 := blk_later hb5 (blk_alloc (blk_new w _) _)
      have hg1 := blk_later hb5 (by have := blk_new (w.alloc (.cells #[.int .i64 0, .int .i64 0, .int .i64 0, .string ⟨#[]⟩] 31)) (.cells #[.int .i64 1, .int .i64 (a : Int), .int .i64 (k : Int), .string ⟨#[]⟩] 31); simp only [World.size_alloc] at this; exact this)
      have G0 := Lib.hid hg0
      have G1 := Lib.hid hg1
      have p0 := (blk_cell hg0 0).trans rfl
      have p1 := (blk_cell hg0 1).trans rfl
      have p2 := (blk_cell hg0 2).trans rfl
      have p3 := (blk_cell hg0 3).trans rfl
      have f0 := blk_free hg0 0
      have f1 := blk_free hg0 1
      have f2 := blk_free hg0 2
      have f3 := blk_free hg0 3
      have q0 := (blk_cell hg1 0).trans rfl
      have q1 := (blk_cell hg1 1).trans rfl
      have q2 := (blk_cell hg1 2).trans rfl
      have q3 := (blk_cell hg1 3).trans rfl
      have qf0 := blk_free hg1 0
      clear hb5 hg0 hg1
      go_wp2
      have hx : r.2.2 = 4 := by rw [HR.out]; show (if 40 < k - a then 4 else 0) = 4; exact if_pos (by omega)
      have h1 : r.1 = 1 := by rw [HR.out]; rfl
      have h2 : r.2.1 = m + 1 := by rw [HR.out]
      exact rtok_end ((blk_set (blk_set (blk_set (blk_set G0.out 0 _) 1 _) 2 _) 3 _).trans rfl) rfl rfl rfl (by rw [rkd_of h1 hx (by decide)]; rfl) rfl (by rw [ren_of a h2 hx (by decide) (by decide), ← HK.out]) rfl (by rw [hx]; rfl)
        (bel_set (bel_set (bel_set (bel_set HB5.out (Nat.le_refl _)) (Nat.le_refl _)) (Nat.le_refl _)) (Nat.le_refl _))
    · go_enter Tryd.func28, Tryd.ntmps28
      go_wp2_with (first | (go_at_call 39; refine (HL.out _).mono ?_; rintro e w' ⟨rfl, rfl⟩) | (go_at_call 40; refine (HD.out _).mono ?_; rintro e w' ⟨rfl, rfl⟩) | (go_at_call 41; refine (HI.out _).mono ?_; rintro e w' ⟨rfl, rfl⟩) | (go_at_call 42; refine (HW.out _).mono ?_; rintro e w' ⟨rfl, rfl⟩))
      refine (HWD.out _).mono ?_
      rintro e w5 ⟨rfl, hb5⟩
      have HB5 := Lib.hid (bel_trans (bel_alloc (bel_alloc (Below.refl w.heap.size w) _) _) hb5)
      have hg0 := blk_later hb5 (blk_alloc (blk_new w _) _)
      have hg1 := blk_later hb5 (by have := blk_new (w.alloc (.cells #[.int .i64 0, .int .i64 0, .int .i64 0, .string ⟨#[]⟩] 31)) (.cells #[.int .i64 1, .int .i64 (a : Int), .int .i64 (k : Int), .string ⟨#[]⟩] 31); simp only [World.size_alloc] at this; exact this)
      have G0 := Lib.hid hg0
      have G1 := Lib.hid hg1
      have p0 := (blk_cell hg0 0).trans rfl
      have p1 := (blk_cell hg0 1).trans rfl
      have p2 := (blk_cell hg0 2).trans rfl
      have p3 := (blk_cell hg0 3).trans rfl
      have f0 := blk_free hg0 0
      have f1 := blk_free hg0 1
      have f2 := blk_free hg0 2
      have f3 := blk_free hg0 3
      have q0 := (blk_cell hg1 0).trans rfl
      have q1 := (blk_cell hg1 1).trans rfl
      have q2 := (blk_cell hg1 2).trans rfl
      have q3 := (blk_cell hg1 3).trans rfl
      have qf0 := blk_free hg1 0
      clear hb5 hg0 hg1
      go_wp2
      have hx : r.2.2 = 0 := by rw [HR.out]; show (if 40 < k - a then 4 else 0) = 0; exact if_neg (by omega)
      have h1 : r.1 = 1 := by rw [HR.out]; rfl
      have h2 : r.2.1 = m + 1 := by rw [HR.out]
      exact rtok_end ((blk_set (blk_set (blk_set (blk_set G0.out 0 _) 1 _) 2 _) 3 _).trans rfl) rfl rfl rfl (by rw [rkd_of h1 hx (by decide)]; rfl) rfl (by rw [ren_of a h2 hx (by decide) (by decide), ← HK.out]) rfl (by rw [hx]; rfl)
        (bel_set (bel_set (bel_set (bel_set HB5.out (Nat.le_refl _)) (Nat.le_refl _)) (Nat.le_refl _)) (Nat.le_refl _))
  · by_cases h40 : (40 : Int) < (k : Int) - (a : Int)
    · go_enter Tryd.func28, Tryd.ntmps28
      go_wp2_with (first | (go_at_call 39; refine (HL.out _).mono ?_; rintro e w' ⟨rfl, rfl⟩) | (go_at_call 40; refine (HD.out _).mono ?_; rintro e w' ⟨rfl, rfl⟩) | (go_at_call 41; refine (HI.out _).mono ?_; rintro e w' ⟨rfl, rfl⟩) | (go_at_call 42; refine (HW.out _).mono ?_; rintro e w' ⟨rfl, rfl⟩))
      refine (HWD.out _).mono ?_
      rintro e w5 ⟨rfl, hb5⟩
      have HB5 := Lib.hid (bel_trans (bel_alloc (bel_alloc (Below.refl w.heap.size w) _) _) hb5)
      have hg0 := blk_later hb5 (blk_alloc (blk_new w _) _)
      have hg1 := blk_later hb5 (by have := blk_new (w.alloc (.cells #[.int .i64 0, .int .i64 0, .int .i64 0, .string ⟨#[]⟩] 31)) (.cells #[.int .i64 1, .int .i64 (a : Int), .int .i64 (k : Int), .string ⟨#[]⟩] 31); simp only [World.size_alloc] at this; exact this)
      have G0 := Lib.hid hg0
      have G1 := Lib.hid hg1
      have p0 := (blk_cell hg0 0).trans rfl
      have p1 := (blk_cell hg0 1).trans rfl
      have p2 := (blk_cell hg0 2).trans rfl
      have p3 := (blk_cell hg0 3).trans rfl
      have f0 := blk_free hg0 0
      have f1 := blk_free hg0 1
      have f2 := blk_free hg0 2
      have f3 := blk_free hg0 3
      have q0 := (blk_cell hg1 0).trans rfl
      have q1 := (blk_cell hg1 1).trans rfl
      have q2 := (blk_cell hg1 2).trans rfl
      have q3 := (blk_cell hg1 3).trans rfl
      have qf0 := blk_free hg1 0
      clear hb5 hg0 hg1
      go_wp2
      have hx : r.2.2 = 4 := by rw [HR.out]; show (if 40 < k - a then 4 else 0) = 4; exact if_pos (by omega)
      have h1 : r.1 = 5 := by rw [HR.out]; rfl
      have h2 : r.2.1 = m + 1 := by rw [HR.out]
      exact rtok_end ((blk_set (blk_set (blk_set (blk_set ((blk_far w5 (w.heap.size + 1) 0 w.heap.size _ (by omega)).trans G0.out) 0 _) 1 _) 2 _) 3 _).trans rfl) rfl rfl rfl (by rw [rkd_of h1 hx (by decide)]; rfl) rfl (by rw [ren_of a h2 hx (by decide) (by decide), ← HK.out]) rfl (by rw [hx]; rfl)
        (bel_set (bel_set (bel_set (bel_set (bel_set HB5.out (by omega)) (Nat.le_refl _)) (Nat.le_refl _)) (Nat.le_refl _)) (Nat.le_refl _))
    · go_enter Tryd.func28, Tryd.ntmps28
      go_wp2_with (first | (go_at_call 39; refine (HL.out _).mono ?_; rintro e w' ⟨rfl, rfl⟩) | (go_at_call 40; refine (HD.out _).mono ?_; rintro e w' ⟨rfl, rfl⟩) | (go_at_call 41; refine (HI.out _).mono ?_; rintro e w' ⟨rfl, rfl⟩) | (go_at_call 42; refine (HW.out _).mono ?_; rintro e w' ⟨rfl, rfl⟩))
      refine (HWD.out _).mono ?_
      rintro e w5 ⟨rfl, hb5⟩
      have HB5 := Lib.hid (bel_trans (bel_alloc (bel_alloc (Below.refl w.heap.size w) _) _) hb5)
      have hg0 := blk_later hb5 (blk_alloc (blk_new w _) _)
      have hg1 := blk_later hb5 (by have := blk_new (w.alloc (.cells #[.int .i64 0, .int .i64 0, .int .i64 0, .string ⟨#[]⟩] 31)) (.cells #[.int .i64 1, .int .i64 (a : Int), .int .i64 (k : Int), .string ⟨#[]⟩] 31); simp only [World.size_alloc] at this; exact this)
      have G0 := Lib.hid hg0
      have G1 := Lib.hid hg1
      have p0 := (blk_cell hg0 0).trans rfl
      have p1 := (blk_cell hg0 1).trans rfl
      have p2 := (blk_cell hg0 2).trans rfl
      have p3 := (blk_cell hg0 3).trans rfl
      have f0 := blk_free hg0 0
      have f1 := blk_free hg0 1
      have f2 := blk_free hg0 2
      have f3 := blk_free hg0 3
      have q0 := (blk_cell hg1 0).trans rfl
      have q1 := (blk_cell hg1 1).trans rfl
      have q2 := (blk_cell hg1 2).trans rfl
      have q3 := (blk_cell hg1 3).trans rfl
      have qf0 := blk_free hg1 0
      clear hb5 hg0 hg1
      go_wp2
      have hx : r.2.2 = 0 := by rw [HR.out]; show (if 40 < k - a then 4 else 0) = 0; exact if_neg (by omega)
      have h1 : r.1 = 5 := by rw [HR.out]; rfl
      have h2 : r.2.1 = m + 1 := by rw [HR.out]
      exact rtok_end ((blk_set (blk_set (blk_set (blk_set ((blk_far w5 (w.heap.size + 1) 0 w.heap.size _ (by omega)).trans G0.out) 0 _) 1 _) 2 _) 3 _).trans rfl) rfl rfl rfl (by rw [rkd_of h1 hx (by decide)]; rfl) rfl (by rw [ren_of a h2 hx (by decide) (by decide), ← HK.out]) rfl (by rw [hx]; rfl)
        (bel_set (bel_set (bel_set (bel_set (bel_set HB5.out (by omega)) (Nat.le_refl _)) (Nat.le_refl _)) (Nat.le_refl _)) (Nat.le_refl _))
end Go.Proofs.YtlmggfbpdciioaaDoor
