-- Written by a program (the kit's print.py over several roots); not typed by hand.
import Derived.Test.YtnafeapbglflnaaPRefx0
import Derived.Test.YtnafeapbglflnaaPRefx3
namespace Go.Proofs.Ytnafeapbglflnaa.PRef
open Go.RowKit Go.Proofs.YtnafeapbglflnaaW.PrintWords Go.Proofs.YtnafeapbglflnaaW.PrintLast Go.Proofs.YtnafeapbglflnaaW.PrintMore
attribute [local go_sem] max2_int min2_int max_two min_two max_three min_three max_four min_four   -- for this text's walks alone
set_option linter.unusedVariables false
set_option linter.unusedSimpArgs false

/-! ### quoinref17_Reader_Num: function 38 -/
def quoinref17_Reader_Num.l0 : Nat → Int → Int → ByteArray → Int → Bool → Option (Int × ByteArray × Int × Bool)
  | 0, _, _, _, _, _ => none
  | k + 1, x3, x4, x1000, x1001, x1002 => if x4 < 4 then ((quoinref17_Reader_One.f x1000 x1001 x1002).bind fun bt110 => (quoinref17_Reader_Num.l0 k (wrap64 ((wrap64 (256 * x3)) + bt110.1)) (wrap64 (x4 + 1)) bt110.2.1 bt110.2.2.1 bt110.2.2.2)) else (if x3 > 2147483647 then (some (x3, x1000, x1001, true)) else (some (x3, x1000, x1001, x1002)))
def quoinref17_Reader_Num.f (k : Nat) (s0_0 : ByteArray) (s0_1 : Int) (s0_2 : Bool) : Option (Int × ByteArray × Int × Bool) := quoinref17_Reader_Num.l0 k 0 0 s0_0 s0_1 s0_2
theorem quoinref17_Reader_Num.mono_l : ∀ k, (∀ y0 y1 y2 y3 y4, LeO (quoinref17_Reader_Num.l0 k y0 y1 y2 y3 y4) (quoinref17_Reader_Num.l0 (k + 1) y0 y1 y2 y3 y4))
  | 0 => fun _ _ _ _ _ r h => by simp [quoinref17_Reader_Num.l0] at h
  | k + 1 => by
    have ih0 := quoinref17_Reader_Num.mono_l k
    · intro y0 y1 y2 y3 y4
      unfold quoinref17_Reader_Num.l0
      repeat' first
      | (with_reducible exact ih0 _ _ _ _ _)
      | (with_reducible exact LeO.refl _)
      | (with_reducible exact LeO.none _)
      | (with_reducible refine LeO.ite ?_ ?_)
      | (with_reducible refine LeO.bind ?_ (fun _ => ?_))
      | exact ih0 _ _ _ _ _
      | exact LeO.none _
      | refine LeO.ite ?_ ?_
      | refine LeO.bind ?_ (fun _ => ?_)
theorem quoinref17_Reader_Num.mono : ∀ a0 a1 a2 k, LeO (quoinref17_Reader_Num.f k a0 a1 a2) (quoinref17_Reader_Num.f (k + 1) a0 a1 a2) := by
  intro a0 a1 a2 k
  have ih0 := quoinref17_Reader_Num.mono_l k
  unfold quoinref17_Reader_Num.f
  repeat' first
      | (with_reducible exact ih0 _ _ _ _ _)
      | (with_reducible exact LeO.refl _)
      | (with_reducible exact LeO.none _)
      | (with_reducible refine LeO.ite ?_ ?_)
      | (with_reducible refine LeO.bind ?_ (fun _ => ?_))
      | exact ih0 _ _ _ _ _
      | exact LeO.none _
      | refine LeO.ite ?_ ?_
      | refine LeO.bind ?_ (fun _ => ?_)
set_option maxHeartbeats 8000000 in
set_option maxRecDepth 100000 in
theorem quoinref17_Reader_Num.calls (k : Nat) (g : Nat) (s0_0 : ByteArray) (s0_1 : Int) (s0_2 : Bool) (r1 : Int) (r2 : ByteArray) (r3 : Int) (r4 : Bool) (w0 w : World) (hI : IsS65 w0 w g s0_0 s0_1 s0_2) (hB : Below w0.heap.size w0 w) (h : quoinref17_Reader_Num.f k s0_0 s0_1 s0_2 = some (r1, r2, r3, r4)) :
    Calls Try.prog 38 #[.pointer (some ⟨g, 0, none⟩)] w fun e w' => e = .returned (.int .i64 r1) ∧ IsS65 w0 w' g r2 r3 r4 ∧ Below w0.heap.size w0 w' ∧ KeepBut w w' g none := by
  have HI0 := Aside0.mk hI
  have HK := Aside0.mk (KeepBut.refl w g none)
  have HL := Aside0.mk hB.size
  clear hI
  have HW0 := Aside0.mk hB.size
  have HB := Aside0.mk hB
  clear hB
  have H : (quoinref17_Reader_Num.l0 k 0 0 s0_0 s0_1 s0_2) = some (r1, r2, r3, r4) := h
  clear h
  have H' := Aside0.mk H
  clear H
  go_enter Try.func38, Try.ntmps38
  go_wp2
  go_loopg [3, 4] k (fun kq v3 v4 w' => ∃ (x3_1 : Int) (x4_1 : Int) (x1000_1 : ByteArray) (x1001_1 : Int) (x1002_1 : Bool), v3 = .int .i64 x3_1 ∧ v4 = .int .i64 x4_1 ∧ Aside0 (quoinref17_Reader_Num.l0 kq x3_1 x4_1 x1000_1 x1001_1 x1002_1 = some (r1, r2, r3, r4)) ∧ Aside0 (kq ≤ k) ∧ Aside0 (IsS65 w0 w' g x1000_1 x1001_1 x1002_1) ∧ Aside0 (KeepBut w w' g none) ∧ Aside0 (Below w0.heap.size w0 w'))
  case atStart => exact ⟨(0), (0), (s0_0), (s0_1), (s0_2), (by first | rfl | (simp; done) | (simp [*]; done)), (by first | rfl | (simp; done) | (simp [*]; done)), H', ⟨Nat.le_refl _⟩, ⟨by repeat (first | (with_reducible first | exact HI0.out | apply IsS65.alloc | apply IsS65.drewN | apply IsS65.drew | apply IsS65.set_0 | apply IsS65.set_1 | apply IsS65.set_2) | exact HI0.out)⟩, ⟨by repeat (first | (with_reducible first | exact HK.out | apply KeepBut.set_ | apply keep_drewN | apply keep_drew | apply keep_alloc) | exact HK.out)⟩, ⟨by repeat (first | (with_reducible first | exact HB.out | apply below_alloc | apply pw_below_drewN | apply below_drew1 | refine below_set ?_ (IsS65.ge HI0.out)) | exact HB.out)⟩⟩
  case round =>
    clear H'
    obtain ⟨x3_1, x4_1, x1000_1, x1001_1, x1002_1, rfl, rfl, HA, HK1, HI0, HK, HB⟩ := hrel
    cases gk with
    | zero => exact absurd HA.out (by simp [quoinref17_Reader_Num.l0])
    | succ k1 =>
      have H := HA.out
      clear HA
      simp only [quoinref17_Reader_Num.l0] at H
      by_cases c2 : x4_1 < 4
      · rw [if_pos c2] at H
        have c2b0 : decide (x4_1 < 4) = true := decide_eq_true c2
        clear c2
        replace H := Option.bind_eq_some_iff.mp H
        obtain ⟨⟨t110, t111, t112, t113⟩, A30, H⟩ := H
        replace H : (quoinref17_Reader_Num.l0 k1 (wrap64 ((wrap64 (256 * x3_1)) + t110)) (wrap64 (x4_1 + 1)) t111 t112 t113) = some (r1, r2, r3, r4) := H
        have A3 := Aside0.mk A30
        clear A30
        have H' := Aside0.mk H
        clear H
        go_wp2_with (first | ((with_reducible refine gate_callee (f := 43) rfl ?_); refine goesL_ (some 12) rfl rfl Try.func43 (by kernel_rfl) rfl #[.pointer (some ⟨g, 0, none⟩)] rfl (by (try simp only [List.map_toArray, List.map_cons, List.map_nil]); first | done | rfl | (simp only [List.length_drop, List.length_take]; rfl)) ?_; (with_reducible refine (quoinref17_Reader_One.calls g x1000_1 x1001_1 x1002_1 t110 t111 t112 t113 w0 _ ?side1 ?side2 A3.out).mono ?_); (case side1 => repeat (first | (with_reducible first | exact HI0.out | apply IsS65.alloc | apply IsS65.drewN | apply IsS65.drew | apply IsS65.set_0 | apply IsS65.set_1 | apply IsS65.set_2) | exact HI0.out)); (case side2 => repeat (first | (with_reducible first | exact HB.out | apply below_alloc | apply pw_below_drewN | apply below_drew1 | refine below_set ?_ (IsS65.ge HI0.out)) | exact HB.out)); rintro e w4 ⟨rfl, hi, hb, hk⟩; refine ⟨_, rfl, ?_⟩; have n0_ := Aside0.mk (KeepBut.trans (by repeat (first | (with_reducible first | exact HK.out | apply KeepBut.set_ | apply keep_drewN | apply keep_drew | apply keep_alloc) | exact HK.out)) hk (.inl rfl)); have n1_ := Aside0.mk (hb); have n2_ := Aside0.mk (hi); clear HK; clear HB; clear HI0; have HK := n0_; have HB := n1_; have HI0 := n2_; clear n0_ n1_ n2_; (try clear hb); (try clear hb2); (try clear hk); (try clear hi)))
        go_roundg k1
        case measure => have := HK1.out; omega
        case rel => exact ⟨(wrap64 ((wrap64 (256 * x3_1)) + t110)), (wrap64 (x4_1 + 1)), (t111), (t112), (t113), (by first | rfl | (simp; done) | (simp [*]; done)), (by first | rfl | (simp; done) | (simp [*]; done)), H', ⟨by have := HK1.out; omega⟩, ⟨by repeat (first | (with_reducible first | exact HI0.out | apply IsS65.alloc | apply IsS65.drewN | apply IsS65.drew | apply IsS65.set_0 | apply IsS65.set_1 | apply IsS65.set_2) | exact HI0.out)⟩, ⟨by repeat (first | (with_reducible first | exact HK.out | apply KeepBut.set_ | apply keep_drewN | apply keep_drew | apply keep_alloc) | exact HK.out)⟩, ⟨by repeat (first | (with_reducible first | exact HB.out | apply below_alloc | apply pw_below_drewN | apply below_drew1 | refine below_set ?_ (IsS65.ge HI0.out)) | exact HB.out)⟩⟩
      · rw [if_neg c2] at H
        have c2b0 : decide (x4_1 < 4) = false := decide_eq_false c2
        clear c2
        by_cases c5 : x3_1 > 2147483647
        · rw [if_pos c5] at H
          have c5b0 : decide (2147483647 < x3_1) = true := decide_eq_true c5
          clear c5
          simp only [Option.some.injEq, Prod.mk.injEq] at H
          obtain ⟨rfl, rfl, rfl, rfl⟩ := H
          obtain ⟨HGz6, hgz6⟩ := HI0.out
          have hcz6_0 := cellS65_0 HGz6
          have hcz6_1 := cellS65_1 HGz6
          have hcz6_2 := cellS65_2 HGz6
          have hfz6_0 := blk_frozen HGz6 0
          have hfz6_1 := blk_frozen HGz6 1
          have hfz6_2 := blk_frozen HGz6 2
          clear HGz6 hgz6
          go_wp2
          go_ret
          exact ⟨by first | rfl | (simp [errW_none, errW_some] <;> rfl) | (simp [*, errW_none, errW_some] <;> rfl), by repeat (first | (with_reducible first | exact HI0.out | apply IsS65.alloc | apply IsS65.drewN | apply IsS65.drew | apply IsS65.set_0 | apply IsS65.set_1 | apply IsS65.set_2) | exact HI0.out), by repeat (first | (with_reducible first | exact HB.out | apply below_alloc | apply pw_below_drewN | apply below_drew1 | refine below_set ?_ (IsS65.ge HI0.out)) | exact HB.out), by repeat (first | (with_reducible first | exact HK.out | apply KeepBut.set_ | apply keep_drewN | apply keep_drew | apply keep_alloc) | exact HK.out)⟩
        · rw [if_neg c5] at H
          have c5b0 : decide (2147483647 < x3_1) = false := decide_eq_false c5
          clear c5
          simp only [Option.some.injEq, Prod.mk.injEq] at H
          obtain ⟨rfl, rfl, rfl, rfl⟩ := H
          go_wp2
          go_ret
          exact ⟨by first | rfl | (simp [errW_none, errW_some] <;> rfl) | (simp [*, errW_none, errW_some] <;> rfl), by repeat (first | (with_reducible first | exact HI0.out | apply IsS65.alloc | apply IsS65.drewN | apply IsS65.drew | apply IsS65.set_0 | apply IsS65.set_1 | apply IsS65.set_2) | exact HI0.out), by repeat (first | (with_reducible first | exact HB.out | apply below_alloc | apply pw_below_drewN | apply below_drew1 | refine below_set ?_ (IsS65.ge HI0.out)) | exact HB.out), by repeat (first | (with_reducible first | exact HK.out | apply KeepBut.set_ | apply keep_drewN | apply keep_drew | apply keep_alloc) | exact HK.out)⟩

/-! ### quoinref17_Reader_Text: function 32 -/
def quoinref17_Reader_Text.f (k : Nat) (s0_0 : ByteArray) (s0_1 : Int) (s0_2 : Bool) : Option (ByteArray × ByteArray × Int × Bool) := (quoinref17_Reader_Num.f k s0_0 s0_1 s0_2).bind fun bt114 => (if bt114.2.2.2 = true then (some ((⟨#[]⟩ : ByteArray), bt114.2.1, bt114.2.2.1, true)) else (if bt114.1 > (wrap64 ((bt114.2.1.size : Int) - bt114.2.2.1)) then (some ((⟨#[]⟩ : ByteArray), bt114.2.1, bt114.2.2.1, true)) else (if 0 ≤ (wrap64 ((wrap64 (bt114.2.2.1 + bt114.1)) - bt114.1)) then (if (wrap64 ((wrap64 (bt114.2.2.1 + bt114.1)) - bt114.1)) ≤ (wrap64 (bt114.2.2.1 + bt114.1)) then (if (wrap64 (bt114.2.2.1 + bt114.1)) ≤ (bt114.2.1.size : Int) then (some (bt114.2.1.extract ((wrap64 ((wrap64 (bt114.2.2.1 + bt114.1)) - bt114.1)) : Int).toNat ((wrap64 (bt114.2.2.1 + bt114.1)) : Int).toNat, bt114.2.1, wrap64 (bt114.2.2.1 + bt114.1), bt114.2.2.2)) else (none)) else (none)) else (none))))
theorem quoinref17_Reader_Text.mono : ∀ a0 a1 a2 k, LeO (quoinref17_Reader_Text.f k a0 a1 a2) (quoinref17_Reader_Text.f (k + 1) a0 a1 a2) := by
  intro a0 a1 a2 k
  unfold quoinref17_Reader_Text.f
  repeat' first
      | (with_reducible exact quoinref17_Reader_Num.mono _ _ _ _)
      | (with_reducible exact LeO.refl _)
      | (with_reducible exact LeO.none _)
      | (with_reducible refine LeO.ite ?_ ?_)
      | (with_reducible refine LeO.bind ?_ (fun _ => ?_))
      | exact quoinref17_Reader_Num.mono _ _ _ _
      | exact LeO.none _
      | refine LeO.ite ?_ ?_
      | refine LeO.bind ?_ (fun _ => ?_)
set_option maxHeartbeats 8000000 in
set_option maxRecDepth 100000 in
theorem quoinref17_Reader_Text.calls (k : Nat) (g : Nat) (s0_0 : ByteArray) (s0_1 : Int) (s0_2 : Bool) (r1 : ByteArray) (r2 : ByteArray) (r3 : Int) (r4 : Bool) (w0 w : World) (hI : IsS65 w0 w g s0_0 s0_1 s0_2) (hB : Below w0.heap.size w0 w) (h : quoinref17_Reader_Text.f k s0_0 s0_1 s0_2 = some (r1, r2, r3, r4)) :
    Calls Try.prog 32 #[.pointer (some ⟨g, 0, none⟩)] w fun e w' => e = .returned (.string r1) ∧ IsS65 w0 w' g r2 r3 r4 ∧ Below w0.heap.size w0 w' ∧ KeepBut w w' g none := by
  have HI0 := Aside0.mk hI
  have HK := Aside0.mk (KeepBut.refl w g none)
  have HL := Aside0.mk hB.size
  clear hI
  have HW0 := Aside0.mk hB.size
  have HB := Aside0.mk hB
  clear hB
  have H : ((quoinref17_Reader_Num.f k s0_0 s0_1 s0_2).bind fun bt114 => (if bt114.2.2.2 = true then (some ((⟨#[]⟩ : ByteArray), bt114.2.1, bt114.2.2.1, true)) else (if bt114.1 > (wrap64 ((bt114.2.1.size : Int) - bt114.2.2.1)) then (some ((⟨#[]⟩ : ByteArray), bt114.2.1, bt114.2.2.1, true)) else (if 0 ≤ (wrap64 ((wrap64 (bt114.2.2.1 + bt114.1)) - bt114.1)) then (if (wrap64 ((wrap64 (bt114.2.2.1 + bt114.1)) - bt114.1)) ≤ (wrap64 (bt114.2.2.1 + bt114.1)) then (if (wrap64 (bt114.2.2.1 + bt114.1)) ≤ (bt114.2.1.size : Int) then (some (bt114.2.1.extract ((wrap64 ((wrap64 (bt114.2.2.1 + bt114.1)) - bt114.1)) : Int).toNat ((wrap64 (bt114.2.2.1 + bt114.1)) : Int).toNat, bt114.2.1, wrap64 (bt114.2.2.1 + bt114.1), bt114.2.2.2)) else (none)) else (none)) else (none))))) = some (r1, r2, r3, r4) := h
  clear h
  replace H := Option.bind_eq_some_iff.mp H
  obtain ⟨⟨t114, t115, t116, t117⟩, A20, H⟩ := H
  replace H : (if t117 = true then (some ((⟨#[]⟩ : ByteArray), t115, t116, true)) else (if t114 > (wrap64 ((t115.size : Int) - t116)) then (some ((⟨#[]⟩ : ByteArray), t115, t116, true)) else (if 0 ≤ (wrap64 ((wrap64 (t116 + t114)) - t114)) then (if (wrap64 ((wrap64 (t116 + t114)) - t114)) ≤ (wrap64 (t116 + t114)) then (if (wrap64 (t116 + t114)) ≤ (t115.size : Int) then (some (t115.extract ((wrap64 ((wrap64 (t116 + t114)) - t114)) : Int).toNat ((wrap64 (t116 + t114)) : Int).toNat, t115, wrap64 (t116 + t114), t117)) else (none)) else (none)) else (none)))) = some (r1, r2, r3, r4) := H
  have A2 := Aside0.mk A20
  clear A20
  by_cases c3 : t117 = true
  · subst c3
    have H1 : (some ((⟨#[]⟩ : ByteArray), t115, t116, true)) = some (r1, r2, r3, r4) := by rw [if_pos rfl] at H; exact H
    clear H
    have H := H1
    clear H1
    simp only [Option.some.injEq, Prod.mk.injEq] at H
    obtain ⟨rfl, rfl, rfl, rfl⟩ := H
    go_enter Try.func32, Try.ntmps32
    go_wp2_with (first | (go_at_call 38; (with_reducible refine (quoinref17_Reader_Num.calls k g s0_0 s0_1 s0_2 t114 t115 t116 true w0 _ ?side1 ?side2 A2.out).mono ?_); (case side1 => repeat (first | (with_reducible first | exact HI0.out | apply IsS65.alloc | apply IsS65.drewN | apply IsS65.drew | apply IsS65.set_0 | apply IsS65.set_1 | apply IsS65.set_2) | exact HI0.out)); (case side2 => repeat (first | (with_reducible first | exact HB.out | apply below_alloc | apply pw_below_drewN | apply below_drew1 | refine below_set ?_ (IsS65.ge HI0.out)) | exact HB.out)); rintro e w4 ⟨rfl, hi, hb, hk⟩; have n0_ := Aside0.mk (KeepBut.trans (by repeat (first | (with_reducible first | exact HK.out | apply KeepBut.set_ | apply keep_drewN | apply keep_drew | apply keep_alloc) | exact HK.out)) hk (.inl rfl)); have n1_ := Aside0.mk (hb); have n2_ := Aside0.mk (hi); clear HK; clear HB; clear HI0; have HK := n0_; have HB := n1_; have HI0 := n2_; clear n0_ n1_ n2_; (try clear hb); (try clear hb2); (try clear hk); (try clear hi); obtain ⟨HGz5, hgz5⟩ := HI0.out; have hcz5_0 := cellS65_0 HGz5; have hcz5_1 := cellS65_1 HGz5; have hcz5_2 := cellS65_2 HGz5; have hfz5_0 := blk_frozen HGz5 0; have hfz5_1 := blk_frozen HGz5 1; have hfz5_2 := blk_frozen HGz5 2; clear HGz5 hgz5))
    repeat (go_quiet (first | (go_at_call 38; (with_reducible refine (quoinref17_Reader_Num.calls k g s0_0 s0_1 s0_2 t114 t115 t116 true w0 _ ?side1 ?side2 A2.out).mono ?_); (case side1 => repeat (first | (with_reducible first | exact HI0.out | apply IsS65.alloc | apply IsS65.drewN | apply IsS65.drew | apply IsS65.set_0 | apply IsS65.set_1 | apply IsS65.set_2) | exact HI0.out)); (case side2 => repeat (first | (with_reducible first | exact HB.out | apply below_alloc | apply pw_below_drewN | apply below_drew1 | refine below_set ?_ (IsS65.ge HI0.out)) | exact HB.out)); rintro e w4 ⟨rfl, hi, hb, hk⟩; have n0_ := Aside0.mk (KeepBut.trans (by repeat (first | (with_reducible first | exact HK.out | apply KeepBut.set_ | apply keep_drewN | apply keep_drew | apply keep_alloc) | exact HK.out)) hk (.inl rfl)); have n1_ := Aside0.mk (hb); have n2_ := Aside0.mk (hi); clear HK; clear HB; clear HI0; have HK := n0_; have HB := n1_; have HI0 := n2_; clear n0_ n1_ n2_; (try clear hb); (try clear hb2); (try clear hk); (try clear hi); obtain ⟨HGz5, hgz5⟩ := HI0.out; have hcz5_0 := cellS65_0 HGz5; have hcz5_1 := cellS65_1 HGz5; have hcz5_2 := cellS65_2 HGz5; have hfz5_0 := blk_frozen HGz5 0; have hfz5_1 := blk_frozen HGz5 1; have hfz5_2 := blk_frozen HGz5 2; clear HGz5 hgz5)); try go_wp2_with (first | (go_at_call 38; (with_reducible refine (quoinref17_Reader_Num.calls k g s0_0 s0_1 s0_2 t114 t115 t116 true w0 _ ?side1 ?side2 A2.out).mono ?_); (case side1 => repeat (first | (with_reducible first | exact HI0.out | apply IsS65.alloc | apply IsS65.drewN | apply IsS65.drew | apply IsS65.set_0 | apply IsS65.set_1 | apply IsS65.set_2) | exact HI0.out)); (case side2 => repeat (first | (with_reducible first | exact HB.out | apply below_alloc | apply pw_below_drewN | apply below_drew1 | refine below_set ?_ (IsS65.ge HI0.out)) | exact HB.out)); rintro e w4 ⟨rfl, hi, hb, hk⟩; have n0_ := Aside0.mk (KeepBut.trans (by repeat (first | (with_reducible first | exact HK.out | apply KeepBut.set_ | apply keep_drewN | apply keep_drew | apply keep_alloc) | exact HK.out)) hk (.inl rfl)); have n1_ := Aside0.mk (hb); have n2_ := Aside0.mk (hi); clear HK; clear HB; clear HI0; have HK := n0_; have HB := n1_; have HI0 := n2_; clear n0_ n1_ n2_; (try clear hb); (try clear hb2); (try clear hk); (try clear hi); obtain ⟨HGz5, hgz5⟩ := HI0.out; have hcz5_0 := cellS65_0 HGz5; have hcz5_1 := cellS65_1 HGz5; have hcz5_2 := cellS65_2 HGz5; have hfz5_0 := blk_frozen HGz5 0; have hfz5_1 := blk_frozen HGz5 1; have hfz5_2 := blk_frozen HGz5 2; clear HGz5 hgz5)))
    go_ret
    exact ⟨by first | rfl | (simp [errW_none, errW_some] <;> rfl) | (simp [*, errW_none, errW_some] <;> rfl), by repeat (first | (with_reducible first | exact HI0.out | apply IsS65.alloc | apply IsS65.drewN | apply IsS65.drew | apply IsS65.set_0 | apply IsS65.set_1 | apply IsS65.set_2) | exact HI0.out), by repeat (first | (with_reducible first | exact HB.out | apply below_alloc | apply pw_below_drewN | apply below_drew1 | refine below_set ?_ (IsS65.ge HI0.out)) | exact HB.out), by repeat (first | (with_reducible first | exact HK.out | apply KeepBut.set_ | apply keep_drewN | apply keep_drew | apply keep_alloc) | exact HK.out)⟩
  · replace c3 := Bool.eq_false_iff.mpr c3
    subst c3
    have H1 : (if t114 > (wrap64 ((t115.size : Int) - t116)) then (some ((⟨#[]⟩ : ByteArray), t115, t116, true)) else (if 0 ≤ (wrap64 ((wrap64 (t116 + t114)) - t114)) then (if (wrap64 ((wrap64 (t116 + t114)) - t114)) ≤ (wrap64 (t116 + t114)) then (if (wrap64 (t116 + t114)) ≤ (t115.size : Int) then (some (t115.extract ((wrap64 ((wrap64 (t116 + t114)) - t114)) : Int).toNat ((wrap64 (t116 + t114)) : Int).toNat, t115, wrap64 (t116 + t114), false)) else (none)) else (none)) else (none))) = some (r1, r2, r3, r4) := by rw [if_neg (show ¬ (false = true) by decide)] at H; exact H
    clear H
    have H := H1
    clear H1
    by_cases c6 : t114 > (wrap64 ((t115.size : Int) - t116))
    · rw [if_pos c6] at H
      have c6b0 : decide ((wrap64 ((t115.size : Int) - t116)) < t114) = true := decide_eq_true c6
      clear c6
      simp only [Option.some.injEq, Prod.mk.injEq] at H
      obtain ⟨rfl, rfl, rfl, rfl⟩ := H
      go_enter Try.func32, Try.ntmps32
      go_wp2_with (first | (go_at_call 38; (with_reducible refine (quoinref17_Reader_Num.calls k g s0_0 s0_1 s0_2 t114 t115 t116 false w0 _ ?side1 ?side2 A2.out).mono ?_); (case side1 => repeat (first | (with_reducible first | exact HI0.out | apply IsS65.alloc | apply IsS65.drewN | apply IsS65.drew | apply IsS65.set_0 | apply IsS65.set_1 | apply IsS65.set_2) | exact HI0.out)); (case side2 => repeat (first | (with_reducible first | exact HB.out | apply below_alloc | apply pw_below_drewN | apply below_drew1 | refine below_set ?_ (IsS65.ge HI0.out)) | exact HB.out)); rintro e w7 ⟨rfl, hi, hb, hk⟩; have n0_ := Aside0.mk (KeepBut.trans (by repeat (first | (with_reducible first | exact HK.out | apply KeepBut.set_ | apply keep_drewN | apply keep_drew | apply keep_alloc) | exact HK.out)) hk (.inl rfl)); have n1_ := Aside0.mk (hb); have n2_ := Aside0.mk (hi); clear HK; clear HB; clear HI0; have HK := n0_; have HB := n1_; have HI0 := n2_; clear n0_ n1_ n2_; (try clear hb); (try clear hb2); (try clear hk); (try clear hi); obtain ⟨HGz8, hgz8⟩ := HI0.out; have hcz8_0 := cellS65_0 HGz8; have hcz8_1 := cellS65_1 HGz8; have hcz8_2 := cellS65_2 HGz8; have hfz8_0 := blk_frozen HGz8 0; have hfz8_1 := blk_frozen HGz8 1; have hfz8_2 := blk_frozen HGz8 2; clear HGz8 hgz8))
      repeat (go_quiet (first | (go_at_call 38; (with_reducible refine (quoinref17_Reader_Num.calls k g s0_0 s0_1 s0_2 t114 t115 t116 false w0 _ ?side1 ?side2 A2.out).mono ?_); (case side1 => repeat (first | (with_reducible first | exact HI0.out | apply IsS65.alloc | apply IsS65.drewN | apply IsS65.drew | apply IsS65.set_0 | apply IsS65.set_1 | apply IsS65.set_2) | exact HI0.out)); (case side2 => repeat (first | (with_reducible first | exact HB.out | apply below_alloc | apply pw_below_drewN | apply below_drew1 | refine below_set ?_ (IsS65.ge HI0.out)) | exact HB.out)); rintro e w7 ⟨rfl, hi, hb, hk⟩; have n0_ := Aside0.mk (KeepBut.trans (by repeat (first | (with_reducible first | exact HK.out | apply KeepBut.set_ | apply keep_drewN | apply keep_drew | apply keep_alloc) | exact HK.out)) hk (.inl rfl)); have n1_ := Aside0.mk (hb); have n2_ := Aside0.mk (hi); clear HK; clear HB; clear HI0; have HK := n0_; have HB := n1_; have HI0 := n2_; clear n0_ n1_ n2_; (try clear hb); (try clear hb2); (try clear hk); (try clear hi); obtain ⟨HGz8, hgz8⟩ := HI0.out; have hcz8_0 := cellS65_0 HGz8; have hcz8_1 := cellS65_1 HGz8; have hcz8_2 := cellS65_2 HGz8; have hfz8_0 := blk_frozen HGz8 0; have hfz8_1 := blk_frozen HGz8 1; have hfz8_2 := blk_frozen HGz8 2; clear HGz8 hgz8)); try go_wp2_with (first | (go_at_call 38; (with_reducible refine (quoinref17_Reader_Num.calls k g s0_0 s0_1 s0_2 t114 t115 t116 false w0 _ ?side1 ?side2 A2.out).mono ?_); (case side1 => repeat (first | (with_reducible first | exact HI0.out | apply IsS65.alloc | apply IsS65.drewN | apply IsS65.drew | apply IsS65.set_0 | apply IsS65.set_1 | apply IsS65.set_2) | exact HI0.out)); (case side2 => repeat (first | (with_reducible first | exact HB.out | apply below_alloc | apply pw_below_drewN | apply below_drew1 | refine below_set ?_ (IsS65.ge HI0.out)) | exact HB.out)); rintro e w7 ⟨rfl, hi, hb, hk⟩; have n0_ := Aside0.mk (KeepBut.trans (by repeat (first | (with_reducible first | exact HK.out | apply KeepBut.set_ | apply keep_drewN | apply keep_drew | apply keep_alloc) | exact HK.out)) hk (.inl rfl)); have n1_ := Aside0.mk (hb); have n2_ := Aside0.mk (hi); clear HK; clear HB; clear HI0; have HK := n0_; have HB := n1_; have HI0 := n2_; clear n0_ n1_ n2_; (try clear hb); (try clear hb2); (try clear hk); (try clear hi); obtain ⟨HGz8, hgz8⟩ := HI0.out; have hcz8_0 := cellS65_0 HGz8; have hcz8_1 := cellS65_1 HGz8; have hcz8_2 := cellS65_2 HGz8; have hfz8_0 := blk_frozen HGz8 0; have hfz8_1 := blk_frozen HGz8 1; have hfz8_2 := blk_frozen HGz8 2; clear HGz8 hgz8)))
      go_ret
      exact ⟨by first | rfl | (simp [errW_none, errW_some] <;> rfl) | (simp [*, errW_none, errW_some] <;> rfl), by repeat (first | (with_reducible first | exact HI0.out | apply IsS65.alloc | apply IsS65.drewN | apply IsS65.drew | apply IsS65.set_0 | apply IsS65.set_1 | apply IsS65.set_2) | exact HI0.out), by repeat (first | (with_reducible first | exact HB.out | apply below_alloc | apply pw_below_drewN | apply below_drew1 | refine below_set ?_ (IsS65.ge HI0.out)) | exact HB.out), by repeat (first | (with_reducible first | exact HK.out | apply KeepBut.set_ | apply keep_drewN | apply keep_drew | apply keep_alloc) | exact HK.out)⟩
    · rw [if_neg c6] at H
      have c6b0 : decide ((wrap64 ((t115.size : Int) - t116)) < t114) = false := decide_eq_false c6
      clear c6
      obtain ⟨ji9, hji9⟩ : ∃ j_ : Int, (wrap64 ((wrap64 (t116 + t114)) - t114)) = j_ := ⟨_, rfl⟩
      replace H : (if 0 ≤ (ji9) then (if (ji9) ≤ (wrap64 (t116 + t114)) then (if (wrap64 (t116 + t114)) ≤ (t115.size : Int) then (some (t115.extract ((ji9) : Int).toNat ((wrap64 (t116 + t114)) : Int).toNat, t115, wrap64 (t116 + t114), false)) else (none)) else (none)) else (none)) = some (r1, r2, r3, r4) := by first | (rw [hji9] at H; exact H) | (simp only [hji9] at H ⊢; exact H)
      (try rw [hji9] at A2)
      have hji9w : (IntKind.i64.wrap ((wrap64 (t116 + t114)) - t114)) = ji9 := (i64_w _).trans hji9
      by_cases c10 : 0 ≤ (ji9)
      · rw [if_pos c10] at H
        have c10b0 := eq_true c10
        have c10b1 : decide (0 ≤ (ji9)) = true := decide_eq_true c10
        clear c10
        by_cases c11 : (ji9) ≤ (wrap64 (t116 + t114))
        · rw [if_pos c11] at H
          have c11b0 := eq_true c11
          have c11b1 : decide ((ji9) ≤ (wrap64 (t116 + t114))) = true := decide_eq_true c11
          by_cases c12 : (wrap64 (t116 + t114)) ≤ (t115.size : Int)
          · rw [if_pos c12] at H
            have c12b0 := eq_true c12
            have c12b1 : decide ((wrap64 (t116 + t114)) ≤ (t115.size : Int)) = true := decide_eq_true c12
            simp only [Option.some.injEq, Prod.mk.injEq] at H
            obtain ⟨rfl, rfl, rfl, rfl⟩ := H
            go_enter Try.func32, Try.ntmps32
            go_wp2_with (first | (go_at_call 38; (with_reducible refine (quoinref17_Reader_Num.calls k g s0_0 s0_1 s0_2 t114 t115 t116 false w0 _ ?side1 ?side2 A2.out).mono ?_); (case side1 => repeat (first | (with_reducible first | exact HI0.out | apply IsS65.alloc | apply IsS65.drewN | apply IsS65.drew | apply IsS65.set_0 | apply IsS65.set_1 | apply IsS65.set_2) | exact HI0.out)); (case side2 => repeat (first | (with_reducible first | exact HB.out | apply below_alloc | apply pw_below_drewN | apply below_drew1 | refine below_set ?_ (IsS65.ge HI0.out)) | exact HB.out)); rintro e w13 ⟨rfl, hi, hb, hk⟩; have n0_ := Aside0.mk (KeepBut.trans (by repeat (first | (with_reducible first | exact HK.out | apply KeepBut.set_ | apply keep_drewN | apply keep_drew | apply keep_alloc) | exact HK.out)) hk (.inl rfl)); have n1_ := Aside0.mk (hb); have n2_ := Aside0.mk (hi); clear HK; clear HB; clear HI0; have HK := n0_; have HB := n1_; have HI0 := n2_; clear n0_ n1_ n2_; (try clear hb); (try clear hb2); (try clear hk); (try clear hi); obtain ⟨HGz14, hgz14⟩ := HI0.out; have hcz14_0 := cellS65_0 HGz14; have hcz14_1 := cellS65_1 HGz14; have hcz14_2 := cellS65_2 HGz14; have hfz14_0 := blk_frozen HGz14 0; have hfz14_1 := blk_frozen HGz14 1; have hfz14_2 := blk_frozen HGz14 2; clear HGz14 hgz14))
            repeat (go_quiet (first | (go_at_call 38; (with_reducible refine (quoinref17_Reader_Num.calls k g s0_0 s0_1 s0_2 t114 t115 t116 false w0 _ ?side1 ?side2 A2.out).mono ?_); (case side1 => repeat (first | (with_reducible first | exact HI0.out | apply IsS65.alloc | apply IsS65.drewN | apply IsS65.drew | apply IsS65.set_0 | apply IsS65.set_1 | apply IsS65.set_2) | exact HI0.out)); (case side2 => repeat (first | (with_reducible first | exact HB.out | apply below_alloc | apply pw_below_drewN | apply below_drew1 | refine below_set ?_ (IsS65.ge HI0.out)) | exact HB.out)); rintro e w13 ⟨rfl, hi, hb, hk⟩; have n0_ := Aside0.mk (KeepBut.trans (by repeat (first | (with_reducible first | exact HK.out | apply KeepBut.set_ | apply keep_drewN | apply keep_drew | apply keep_alloc) | exact HK.out)) hk (.inl rfl)); have n1_ := Aside0.mk (hb); have n2_ := Aside0.mk (hi); clear HK; clear HB; clear HI0; have HK := n0_; have HB := n1_; have HI0 := n2_; clear n0_ n1_ n2_; (try clear hb); (try clear hb2); (try clear hk); (try clear hi); obtain ⟨HGz14, hgz14⟩ := HI0.out; have hcz14_0 := cellS65_0 HGz14; have hcz14_1 := cellS65_1 HGz14; have hcz14_2 := cellS65_2 HGz14; have hfz14_0 := blk_frozen HGz14 0; have hfz14_1 := blk_frozen HGz14 1; have hfz14_2 := blk_frozen HGz14 2; clear HGz14 hgz14)); try go_wp2_with (first | (go_at_call 38; (with_reducible refine (quoinref17_Reader_Num.calls k g s0_0 s0_1 s0_2 t114 t115 t116 false w0 _ ?side1 ?side2 A2.out).mono ?_); (case side1 => repeat (first | (with_reducible first | exact HI0.out | apply IsS65.alloc | apply IsS65.drewN | apply IsS65.drew | apply IsS65.set_0 | apply IsS65.set_1 | apply IsS65.set_2) | exact HI0.out)); (case side2 => repeat (first | (with_reducible first | exact HB.out | apply below_alloc | apply pw_below_drewN | apply below_drew1 | refine below_set ?_ (IsS65.ge HI0.out)) | exact HB.out)); rintro e w13 ⟨rfl, hi, hb, hk⟩; have n0_ := Aside0.mk (KeepBut.trans (by repeat (first | (with_reducible first | exact HK.out | apply KeepBut.set_ | apply keep_drewN | apply keep_drew | apply keep_alloc) | exact HK.out)) hk (.inl rfl)); have n1_ := Aside0.mk (hb); have n2_ := Aside0.mk (hi); clear HK; clear HB; clear HI0; have HK := n0_; have HB := n1_; have HI0 := n2_; clear n0_ n1_ n2_; (try clear hb); (try clear hb2); (try clear hk); (try clear hi); obtain ⟨HGz14, hgz14⟩ := HI0.out; have hcz14_0 := cellS65_0 HGz14; have hcz14_1 := cellS65_1 HGz14; have hcz14_2 := cellS65_2 HGz14; have hfz14_0 := blk_frozen HGz14 0; have hfz14_1 := blk_frozen HGz14 1; have hfz14_2 := blk_frozen HGz14 2; clear HGz14 hgz14)))
            go_ret
            exact ⟨by first | rfl | (simp [errW_none, errW_some] <;> rfl) | (simp only [← hji9]; first | rfl | (simp [errW_none, errW_some] <;> rfl)) | (simp [*, errW_none, errW_some] <;> rfl), by repeat (first | (with_reducible first | exact HI0.out | apply IsS65.alloc | apply IsS65.drewN | apply IsS65.drew | apply IsS65.set_0 | apply IsS65.set_1 | apply IsS65.set_2) | exact HI0.out), by repeat (first | (with_reducible first | exact HB.out | apply below_alloc | apply pw_below_drewN | apply below_drew1 | refine below_set ?_ (IsS65.ge HI0.out)) | exact HB.out), by repeat (first | (with_reducible first | exact HK.out | apply KeepBut.set_ | apply keep_drewN | apply keep_drew | apply keep_alloc) | exact HK.out)⟩
          · rw [if_neg c12] at H
            exact absurd H (by simp)
        · rw [if_neg c11] at H
          exact absurd H (by simp)
      · rw [if_neg c10] at H
        exact absurd H (by simp)

/-! ### quoinref17_Reader_flag: function 34 -/
def quoinref17_Reader_flag.f (s0_0 : ByteArray) (s0_1 : Int) (s0_2 : Bool) : Option (Bool × ByteArray × Int × Bool) := (quoinref17_Reader_One.f s0_0 s0_1 s0_2).bind fun bt118 => (if bt118.1 > 1 then (some ((bt118.1 == 1), bt118.2.1, bt118.2.2.1, true)) else (some ((bt118.1 == 1), bt118.2.1, bt118.2.2.1, bt118.2.2.2)))
set_option maxHeartbeats 8000000 in
set_option maxRecDepth 100000 in
theorem quoinref17_Reader_flag.calls (g : Nat) (s0_0 : ByteArray) (s0_1 : Int) (s0_2 : Bool) (r1 : Bool) (r2 : ByteArray) (r3 : Int) (r4 : Bool) (w0 w : World) (hI : IsS65 w0 w g s0_0 s0_1 s0_2) (hB : Below w0.heap.size w0 w) (h : quoinref17_Reader_flag.f s0_0 s0_1 s0_2 = some (r1, r2, r3, r4)) :
    Calls Try.prog 34 #[.pointer (some ⟨g, 0, none⟩)] w fun e w' => e = .returned (.bool r1) ∧ IsS65 w0 w' g r2 r3 r4 ∧ Below w0.heap.size w0 w' ∧ KeepBut w w' g none := by
  have HI0 := Aside0.mk hI
  have HK := Aside0.mk (KeepBut.refl w g none)
  have HL := Aside0.mk hB.size
  clear hI
  have HW0 := Aside0.mk hB.size
  have HB := Aside0.mk hB
  clear hB
  have H : ((quoinref17_Reader_One.f s0_0 s0_1 s0_2).bind fun bt118 => (if bt118.1 > 1 then (some ((bt118.1 == 1), bt118.2.1, bt118.2.2.1, true)) else (some ((bt118.1 == 1), bt118.2.1, bt118.2.2.1, bt118.2.2.2)))) = some (r1, r2, r3, r4) := h
  clear h
  replace H := Option.bind_eq_some_iff.mp H
  obtain ⟨⟨t118, t119, t120, t121⟩, A20, H⟩ := H
  replace H : (if t118 > 1 then (some ((t118 == 1), t119, t120, true)) else (some ((t118 == 1), t119, t120, t121))) = some (r1, r2, r3, r4) := H
  have A2 := Aside0.mk A20
  clear A20
  by_cases c3 : t118 > 1
  · rw [if_pos c3] at H
    have c3b0 : decide (1 < t118) = true := decide_eq_true c3
    clear c3
    simp only [Option.some.injEq, Prod.mk.injEq] at H
    obtain ⟨rfl, rfl, rfl, rfl⟩ := H
    go_enter Try.func34, Try.ntmps34
    go_wp2_with (first | ((with_reducible refine gate_callee (f := 43) rfl ?_); refine goesL_ (some 5) rfl rfl Try.func43 (by kernel_rfl) rfl #[.pointer (some ⟨g, 0, none⟩)] rfl (by (try simp only [List.map_toArray, List.map_cons, List.map_nil]); first | done | rfl | (simp only [List.length_drop, List.length_take]; rfl)) ?_; (with_reducible refine (quoinref17_Reader_One.calls g s0_0 s0_1 s0_2 t118 t119 t120 t121 w0 _ ?side1 ?side2 A2.out).mono ?_); (case side1 => repeat (first | (with_reducible first | exact HI0.out | apply IsS65.alloc | apply IsS65.drewN | apply IsS65.drew | apply IsS65.set_0 | apply IsS65.set_1 | apply IsS65.set_2) | exact HI0.out)); (case side2 => repeat (first | (with_reducible first | exact HB.out | apply below_alloc | apply pw_below_drewN | apply below_drew1 | refine below_set ?_ (IsS65.ge HI0.out)) | exact HB.out)); rintro e w4 ⟨rfl, hi, hb, hk⟩; refine ⟨_, rfl, ?_⟩; have n0_ := Aside0.mk (KeepBut.trans (by repeat (first | (with_reducible first | exact HK.out | apply KeepBut.set_ | apply keep_drewN | apply keep_drew | apply keep_alloc) | exact HK.out)) hk (.inl rfl)); have n1_ := Aside0.mk (hb); have n2_ := Aside0.mk (hi); clear HK; clear HB; clear HI0; have HK := n0_; have HB := n1_; have HI0 := n2_; clear n0_ n1_ n2_; (try clear hb); (try clear hb2); (try clear hk); (try clear hi); obtain ⟨HGz5, hgz5⟩ := HI0.out; have hcz5_0 := cellS65_0 HGz5; have hcz5_1 := cellS65_1 HGz5; have hcz5_2 := cellS65_2 HGz5; have hfz5_0 := blk_frozen HGz5 0; have hfz5_1 := blk_frozen HGz5 1; have hfz5_2 := blk_frozen HGz5 2; clear HGz5 hgz5))
    go_ret
    exact ⟨by first | rfl | (simp [errW_none, errW_some] <;> rfl) | (simp [*, errW_none, errW_some] <;> rfl), by repeat (first | (with_reducible first | exact HI0.out | apply IsS65.alloc | apply IsS65.drewN | apply IsS65.drew | apply IsS65.set_0 | apply IsS65.set_1 | apply IsS65.set_2) | exact HI0.out), by repeat (first | (with_reducible first | exact HB.out | apply below_alloc | apply pw_below_drewN | apply below_drew1 | refine below_set ?_ (IsS65.ge HI0.out)) | exact HB.out), by repeat (first | (with_reducible first | exact HK.out | apply KeepBut.set_ | apply keep_drewN | apply keep_drew | apply keep_alloc) | exact HK.out)⟩
  · rw [if_neg c3] at H
    have c3b0 : decide (1 < t118) = false := decide_eq_false c3
    clear c3
    simp only [Option.some.injEq, Prod.mk.injEq] at H
    obtain ⟨rfl, rfl, rfl, rfl⟩ := H
    go_enter Try.func34, Try.ntmps34
    go_wp2_with (first | ((with_reducible refine gate_callee (f := 43) rfl ?_); refine goesL_ (some 5) rfl rfl Try.func43 (by kernel_rfl) rfl #[.pointer (some ⟨g, 0, none⟩)] rfl (by (try simp only [List.map_toArray, List.map_cons, List.map_nil]); first | done | rfl | (simp only [List.length_drop, List.length_take]; rfl)) ?_; (with_reducible refine (quoinref17_Reader_One.calls g s0_0 s0_1 s0_2 t118 t119 t120 t121 w0 _ ?side1 ?side2 A2.out).mono ?_); (case side1 => repeat (first | (with_reducible first | exact HI0.out | apply IsS65.alloc | apply IsS65.drewN | apply IsS65.drew | apply IsS65.set_0 | apply IsS65.set_1 | apply IsS65.set_2) | exact HI0.out)); (case side2 => repeat (first | (with_reducible first | exact HB.out | apply below_alloc | apply pw_below_drewN | apply below_drew1 | refine below_set ?_ (IsS65.ge HI0.out)) | exact HB.out)); rintro e w6 ⟨rfl, hi, hb, hk⟩; refine ⟨_, rfl, ?_⟩; have n0_ := Aside0.mk (KeepBut.trans (by repeat (first | (with_reducible first | exact HK.out | apply KeepBut.set_ | apply keep_drewN | apply keep_drew | apply keep_alloc) | exact HK.out)) hk (.inl rfl)); have n1_ := Aside0.mk (hb); have n2_ := Aside0.mk (hi); clear HK; clear HB; clear HI0; have HK := n0_; have HB := n1_; have HI0 := n2_; clear n0_ n1_ n2_; (try clear hb); (try clear hb2); (try clear hk); (try clear hi)))
    go_ret
    exact ⟨by first | rfl | (simp [errW_none, errW_some] <;> rfl) | (simp [*, errW_none, errW_some] <;> rfl), by repeat (first | (with_reducible first | exact HI0.out | apply IsS65.alloc | apply IsS65.drewN | apply IsS65.drew | apply IsS65.set_0 | apply IsS65.set_1 | apply IsS65.set_2) | exact HI0.out), by repeat (first | (with_reducible first | exact HB.out | apply below_alloc | apply pw_below_drewN | apply below_drew1 | refine below_set ?_ (IsS65.ge HI0.out)) | exact HB.out), by repeat (first | (with_reducible first | exact HK.out | apply KeepBut.set_ | apply keep_drewN | apply keep_drew | apply keep_alloc) | exact HK.out)⟩

/-! ### quoinref17_Reader_many: function 33 -/
def quoinref17_Reader_many.f (k : Nat) (s0_0 : ByteArray) (s0_1 : Int) (s0_2 : Bool) : Option (Int × ByteArray × Int × Bool) := (quoinref17_Reader_Num.f k s0_0 s0_1 s0_2).bind fun bt122 => (if bt122.1 > 5000 then (some (bt122.1, bt122.2.1, bt122.2.2.1, true)) else (some (bt122.1, bt122.2.1, bt122.2.2.1, bt122.2.2.2)))
theorem quoinref17_Reader_many.mono : ∀ a0 a1 a2 k, LeO (quoinref17_Reader_many.f k a0 a1 a2) (quoinref17_Reader_many.f (k + 1) a0 a1 a2) := by
  intro a0 a1 a2 k
  unfold quoinref17_Reader_many.f
  repeat' first
      | (with_reducible exact quoinref17_Reader_Num.mono _ _ _ _)
      | (with_reducible exact LeO.refl _)
      | (with_reducible exact LeO.none _)
      | (with_reducible refine LeO.ite ?_ ?_)
      | (with_reducible refine LeO.bind ?_ (fun _ => ?_))
      | exact quoinref17_Reader_Num.mono _ _ _ _
      | exact LeO.none _
      | refine LeO.ite ?_ ?_
      | refine LeO.bind ?_ (fun _ => ?_)
set_option maxHeartbeats 8000000 in
set_option maxRecDepth 100000 in
theorem quoinref17_Reader_many.calls (k : Nat) (g : Nat) (s0_0 : ByteArray) (s0_1 : Int) (s0_2 : Bool) (r1 : Int) (r2 : ByteArray) (r3 : Int) (r4 : Bool) (w0 w : World) (hI : IsS65 w0 w g s0_0 s0_1 s0_2) (hB : Below w0.heap.size w0 w) (h : quoinref17_Reader_many.f k s0_0 s0_1 s0_2 = some (r1, r2, r3, r4)) :
    Calls Try.prog 33 #[.pointer (some ⟨g, 0, none⟩)] w fun e w' => e = .returned (.int .i64 r1) ∧ IsS65 w0 w' g r2 r3 r4 ∧ Below w0.heap.size w0 w' ∧ KeepBut w w' g none := by
  have HI0 := Aside0.mk hI
  have HK := Aside0.mk (KeepBut.refl w g none)
  have HL := Aside0.mk hB.size
  clear hI
  have HW0 := Aside0.mk hB.size
  have HB := Aside0.mk hB
  clear hB
  have H : ((quoinref17_Reader_Num.f k s0_0 s0_1 s0_2).bind fun bt122 => (if bt122.1 > 5000 then (some (bt122.1, bt122.2.1, bt122.2.2.1, true)) else (some (bt122.1, bt122.2.1, bt122.2.2.1, bt122.2.2.2)))) = some (r1, r2, r3, r4) := h
  clear h
  replace H := Option.bind_eq_some_iff.mp H
  obtain ⟨⟨t122, t123, t124, t125⟩, A20, H⟩ := H
  replace H : (if t122 > 5000 then (some (t122, t123, t124, true)) else (some (t122, t123, t124, t125))) = some (r1, r2, r3, r4) := H
  have A2 := Aside0.mk A20
  clear A20
  by_cases c3 : t122 > 5000
  · rw [if_pos c3] at H
    have c3b0 : decide (5000 < t122) = true := decide_eq_true c3
    clear c3
    simp only [Option.some.injEq, Prod.mk.injEq] at H
    obtain ⟨rfl, rfl, rfl, rfl⟩ := H
    go_enter Try.func33, Try.ntmps33
    go_wp2_with (first | ((with_reducible refine gate_callee (f := 38) rfl ?_); refine goesL_ (some 5) rfl rfl Try.func38 (by kernel_rfl) rfl #[.pointer (some ⟨g, 0, none⟩)] rfl (by (try simp only [List.map_toArray, List.map_cons, List.map_nil]); first | done | rfl | (simp only [List.length_drop, List.length_take]; rfl)) ?_; (with_reducible refine (quoinref17_Reader_Num.calls k g s0_0 s0_1 s0_2 t122 t123 t124 t125 w0 _ ?side1 ?side2 A2.out).mono ?_); (case side1 => repeat (first | (with_reducible first | exact HI0.out | apply IsS65.alloc | apply IsS65.drewN | apply IsS65.drew | apply IsS65.set_0 | apply IsS65.set_1 | apply IsS65.set_2) | exact HI0.out)); (case side2 => repeat (first | (with_reducible first | exact HB.out | apply below_alloc | apply pw_below_drewN | apply below_drew1 | refine below_set ?_ (IsS65.ge HI0.out)) | exact HB.out)); rintro e w4 ⟨rfl, hi, hb, hk⟩; refine ⟨_, rfl, ?_⟩; have n0_ := Aside0.mk (KeepBut.trans (by repeat (first | (with_reducible first | exact HK.out | apply KeepBut.set_ | apply keep_drewN | apply keep_drew | apply keep_alloc) | exact HK.out)) hk (.inl rfl)); have n1_ := Aside0.mk (hb); have n2_ := Aside0.mk (hi); clear HK; clear HB; clear HI0; have HK := n0_; have HB := n1_; have HI0 := n2_; clear n0_ n1_ n2_; (try clear hb); (try clear hb2); (try clear hk); (try clear hi); obtain ⟨HGz5, hgz5⟩ := HI0.out; have hcz5_0 := cellS65_0 HGz5; have hcz5_1 := cellS65_1 HGz5; have hcz5_2 := cellS65_2 HGz5; have hfz5_0 := blk_frozen HGz5 0; have hfz5_1 := blk_frozen HGz5 1; have hfz5_2 := blk_frozen HGz5 2; clear HGz5 hgz5))
    go_ret
    exact ⟨by first | rfl | (simp [errW_none, errW_some] <;> rfl) | (simp [*, errW_none, errW_some] <;> rfl), by repeat (first | (with_reducible first | exact HI0.out | apply IsS65.alloc | apply IsS65.drewN | apply IsS65.drew | apply IsS65.set_0 | apply IsS65.set_1 | apply IsS65.set_2) | exact HI0.out), by repeat (first | (with_reducible first | exact HB.out | apply below_alloc | apply pw_below_drewN | apply below_drew1 | refine below_set ?_ (IsS65.ge HI0.out)) | exact HB.out), by repeat (first | (with_reducible first | exact HK.out | apply KeepBut.set_ | apply keep_drewN | apply keep_drew | apply keep_alloc) | exact HK.out)⟩
  · rw [if_neg c3] at H
    have c3b0 : decide (5000 < t122) = false := decide_eq_false c3
    clear c3
    simp only [Option.some.injEq, Prod.mk.injEq] at H
    obtain ⟨rfl, rfl, rfl, rfl⟩ := H
    go_enter Try.func33, Try.ntmps33
    go_wp2_with (first | ((with_reducible refine gate_callee (f := 38) rfl ?_); refine goesL_ (some 5) rfl rfl Try.func38 (by kernel_rfl) rfl #[.pointer (some ⟨g, 0, none⟩)] rfl (by (try simp only [List.map_toArray, List.map_cons, List.map_nil]); first | done | rfl | (simp only [List.length_drop, List.length_take]; rfl)) ?_; (with_reducible refine (quoinref17_Reader_Num.calls k g s0_0 s0_1 s0_2 t122 t123 t124 t125 w0 _ ?side1 ?side2 A2.out).mono ?_); (case side1 => repeat (first | (with_reducible first | exact HI0.out | apply IsS65.alloc | apply IsS65.drewN | apply IsS65.drew | apply IsS65.set_0 | apply IsS65.set_1 | apply IsS65.set_2) | exact HI0.out)); (case side2 => repeat (first | (with_reducible first | exact HB.out | apply below_alloc | apply pw_below_drewN | apply below_drew1 | refine below_set ?_ (IsS65.ge HI0.out)) | exact HB.out)); rintro e w6 ⟨rfl, hi, hb, hk⟩; refine ⟨_, rfl, ?_⟩; have n0_ := Aside0.mk (KeepBut.trans (by repeat (first | (with_reducible first | exact HK.out | apply KeepBut.set_ | apply keep_drewN | apply keep_drew | apply keep_alloc) | exact HK.out)) hk (.inl rfl)); have n1_ := Aside0.mk (hb); have n2_ := Aside0.mk (hi); clear HK; clear HB; clear HI0; have HK := n0_; have HB := n1_; have HI0 := n2_; clear n0_ n1_ n2_; (try clear hb); (try clear hb2); (try clear hk); (try clear hi)))
    go_ret
    exact ⟨by first | rfl | (simp [errW_none, errW_some] <;> rfl) | (simp [*, errW_none, errW_some] <;> rfl), by repeat (first | (with_reducible first | exact HI0.out | apply IsS65.alloc | apply IsS65.drewN | apply IsS65.drew | apply IsS65.set_0 | apply IsS65.set_1 | apply IsS65.set_2) | exact HI0.out), by repeat (first | (with_reducible first | exact HB.out | apply below_alloc | apply pw_below_drewN | apply below_drew1 | refine below_set ?_ (IsS65.ge HI0.out)) | exact HB.out), by repeat (first | (with_reducible first | exact HK.out | apply KeepBut.set_ | apply keep_drewN | apply keep_drew | apply keep_alloc) | exact HK.out)⟩

end Go.Proofs.Ytnafeapbglflnaa.PRef
