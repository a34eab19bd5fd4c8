/- The walk of infer.tell. The walk of infer.Unify: what any arguments tell. -/
import Derived.Test.YtbhagjhhgmmcgaaTyUC
import Derived.WalkArith
namespace Go.Proofs.Ytbhagjhhgmmcgaa
open Go.RowKit PRef Go.Proofs.YtbhagjhhgmmcgaaW.PrintWords Go.Shelf
set_option linter.unusedVariables false
attribute [local go_sem] Oper.semAt_some

theorem elems2 {w0 : World} {A : Option Addr} {l : List Ty} (h : Kd.C kTy w0 A l.length l) : ∃ va : Nat → Value, (∀ i, i < l.length → Elem w0 A l i (va i)) ∧ ∀ i, ∃ A4 c4, va i = tyV (l.getD i zTy) A4 c4 ∧ (l.getD i zTy).f4.length ≤ c4 ∧ Kd.C kTy w0 A4 (l.getD i zTy).f4.length (l.getD i zTy).f4 := by
  obtain ⟨va, hva⟩ := elems h
  refine ⟨fun i => if i < l.length then va i else tyV zTy none 0, fun i hi => by simp only [if_pos hi]; exact hva i hi, fun i => ?_⟩
  by_cases hi : i < l.length
  · obtain ⟨x, A4, c4, hx, h1, h2, h3, _⟩ := hva i hi
    have hx' : l.getD i zTy = x := by rw [List.getD_eq_getElem?_getD, hx]; rfl
    rw [hx']
    exact ⟨A4, c4, by simp only [if_pos hi]; exact h1, h2, h3⟩
  · have hx' : l.getD i zTy = zTy := by rw [List.getD_eq_getElem?_getD, List.getElem?_eq_none (by omega)]; rfl
    rw [hx']
    exact ⟨none, 0, by simp only [if_neg hi], Nat.zero_le _, ⟨rfl, by simp [zTy, z29], fun h => by simp [zTy, z29] at h⟩⟩

/-- A turn of a block that is no cells leaves cells alone. -/
theorem cells_kept {B : Nat} {W W' : World} {row : Option Nat} (hg : W.grownBy W' row) (hr : ∀ r, row = some r → B ≤ r ∧ ∃ o : Obj, W.heap[r]? = some o ∧ o.isCells = false) {k : Nat} {cs : Array Value} {t : TypeId} {fr : Nat × Nat} (h : W.heap[k]? = some (.cells cs t fr)) :
    W'.heap[k]? = some (.cells cs t fr) :=
  (hg.block k (lt_of_heap h) (fun e => by
    obtain ⟨_, o, ho, hc⟩ := hr k e.symm
    rw [h] at ho
    injection ho with ho
    subst ho
    cases hc)).trans h
theorem below_kept {B n₀ : Nat} {w W W' : World} {row : Option Nat} (hg : W.grownBy W' row) (hr : ∀ r, row = some r → B ≤ r ∧ ∃ o : Obj, W.heap[r]? = some o ∧ o.isCells = false) (hn : n₀ ≤ B) (hs : n₀ ≤ W.heap.size) (h : Below n₀ w W) : Below n₀ w W' :=
  h.grown hg hs (fun k hk => by have := (hr k hk).1; omega)

/-- Between two rounds. -/
structure TellI (w0 w : World) (b bt n : Nat) (l m : List Ty) (told : Told) (pre : List Nat) (W : World) : Prop where
  t : ToldC w0 W b (n + pre.length * mL l) (foldP l m told pre)
  box : W.heap[bt]? = some (.cells #[.map (some b)] 96 (0, 0))
  bel : Below w0.heap.size w0 W
  kp : Keeps w W (fun k => k = b)
  sz : bt + 3 ≤ W.heap.size
theorem tellI_own {w0 w : World} {b bt n : Nat} {l m : List Ty} {told : Told} {B : Nat} (h0 : w0.heap.size ≤ B) (h1 : w.heap.size ≤ B) (hb : b < B) : OwnFrom B (TellI w0 w b bt n l m told) := by
  intro pre W W' row h hg hr
  refine ⟨h.t.same (hg.block b h.t.lt (fun e => ?_)), cells_kept hg hr h.box, below_kept hg hr h0 h.bel.size h.bel, Keeps.grown h.kp hg (fun k e => .inr (by have := (hr k e).1; omega)), Nat.le_trans h.sz hg.size⟩
  have := (hr b e.symm).1
  omega
def tyCs : Value → Array Value
  | .agg cs => cs
  | _ => #[]
theorem tyCs_tyV (t : Ty) (A : Option Addr) (c : Nat) : tyCs (tyV t A c) = #[.int .i64 t.f0, .string t.f1, .string t.f2, .int .i64 t.f3, .slice A t.f4.length c] := rfl
theorem tyCs_eq {v : Value} {t : Ty} {A : Option Addr} {c : Nat} (h : v = tyV t A c) : tyCs v = #[.int .i64 t.f0, .string t.f1, .string t.f2, .int .i64 t.f3, .slice A t.f4.length c] := by rw [h]; rfl
/-- The loop's variables. -/
structure TellAx (A B : Option Addr) (l m : List Ty) (c d b bt : Nat) (va vb : Nat → Value) (x : Nat) (a : Act) (W : World) : Prop where
  ex : ∃ q r : Nat, bt + 1 + 1 < q ∧ bt + 1 + 1 < r ∧ W.heap[q]? = some (.cells (tyCs (va x)) 29 (0, 0)) ∧ W.heap[r]? = some (.cells (tyCs (vb x)) 29 (0, 0)) ∧
    a = { tmps := #[.map (some b), .slice A l.length c, .slice B m.length d, .pointer (some ⟨bt, 0, none⟩), undef, undef, .pointer (some ⟨q, 0, none⟩), .pointer (some ⟨r, 0, none⟩), undef, undef, .slice A l.length c, .slice B m.length d, .func (.func 80) #[] #[.pointer (some ⟨bt + 1, 0, none⟩), .pointer (some ⟨bt + 1 + 1, 0, none⟩)], va x, vb x, undef, undef, undef, undef, undef, undef, undef, undef, undef, undef, undef, undef, undef, undef, undef, undef, undef, undef, undef, undef, undef, undef, undef, undef, undef, undef, undef, undef, undef, undef, undef, undef, undef, undef, undef, undef, undef, undef, undef, undef, undef, undef, undef, undef], defers := [] }
theorem tellAx_own (A B : Option Addr) (l m : List Ty) (c d b bt : Nat) (va vb : Nat → Value) (x : Nat) (a : Act) (n₀ : Nat) : OwnFrom n₀ (fun (_ : Unit) W => TellAx A B l m c d b bt va vb x a W) := by
  intro _ W W' row h hg hr
  obtain ⟨q, r, h0, h0', h1, h2, h3⟩ := h.ex
  exact ⟨q, r, h0, h0', cells_kept hg hr h1, cells_kept hg hr h2, h3⟩
theorem keepsFrom_below {B : Nat} {W W' : World} (hb : Below W.heap.size W W') : KeepsFrom B W W' := ⟨hb.size, fun k o _ hk _ => (hb.block k (lt_of_heap hk)).trans hk⟩
theorem TellI.later {w0 w : World} {b bt n : Nat} {l m : List Ty} {told : Told} {pre : List Nat} {W W' : World} (h : TellI w0 w b bt n l m told pre W) (hb : Below W.heap.size W W') : TellI w0 w b bt n l m told pre W' :=
  ⟨h.t.same (hb.block b h.t.lt), blk_later hb h.box, h.bel.trans (hb.mono h.bel.size), Keeps.same h.kp (Keeps.of_below hb _), Nat.le_trans h.sz hb.size⟩
theorem tell_end {w0 w W W6 : World} {b bt n B x : Nat} {l m : List Ty} {told : Told} {pre : List Nat} (hI : TellI w0 w b bt n l m told pre W) (hb : b < B) (hbt : bt ≠ b) (hb0 : w0.heap.size ≤ b) {k : Nat} (hT : ToldC w0 W6 b (n + pre.length * mL l + k) (tellT (foldP l m told pre) (l.getD x zTy) (m.getD x zTy))) (hkk : k ≤ mL l)
    (hk : Keeps W W6 (fun k => k = b)) : KeepsFrom B W W6 ∧ Kb B b W W6 ∧ TellI w0 w b bt n l m told (pre ++ [x]) W6 := by
  refine ⟨⟨hk.size, fun k o hB hk' _ => Keeps.blk hk hk' (by omega)⟩, Keeps.mono hk (fun k _ h => .inl h), ?_, Keeps.blk hk hI.box hbt, hI.bel.trans (Keeps.below hk hI.bel.size (fun k h => by omega)), Keeps.same hI.kp hk, Nat.le_trans hI.sz hk.size⟩
  rw [foldP_snoc]
  refine hT.mono ?_
  rw [List.length_append, List.length_singleton, Nat.add_mul]
  omega
theorem tyW_get {l : List Ty} (h : ∀ x ∈ l, TyW x) (i : Nat) : TyW (l.getD i zTy) := by
  rw [List.getD_eq_getElem?_getD]
  cases hx : l[i]? with
  | some x => exact h x (List.mem_of_getElem? hx)
  | none => exact .mk _ (by decide) (by decide) (fun x hx => by simp [zTy, z29] at hx)
theorem mL_szL {l : List Ty} {i : Nat} (h : (l.getD i zTy).f0 = 5) : szL (l.getD i zTy).f4 < szL l := by
  rw [List.getD_eq_getElem?_getD] at h ⊢
  cases hx : l[i]? with
  | some x =>
    have h1 := szL_mem (List.mem_of_getElem? hx)
    rw [szT_eq] at h1
    simp only [Option.getD_some]
    omega
  | none => rw [hx] at h; simp [zTy, z29] at h

set_option maxRecDepth 100000 in
set_option maxHeartbeats 4000000 in
theorem tell_any (w0 : World) (b : Nat) (hb0 : w0.heap.size ≤ b) : ∀ (N : Nat) (l m : List Ty), szL l < N → (∀ x ∈ l, TyW x) → (∀ x ∈ m, TyW x) → ∀ (A B : Option Addr) (c d : Nat) (told : Told) (n : Nat) (w : World), Kd.C kTy w0 A l.length l → l.length ≤ c → Kd.C kTy w0 B m.length m → m.length ≤ d →
    Below w0.heap.size w0 w → ToldC w0 w b n told → n + l.length * mL l ≤ 9000000000000000000 →
    Calls Try.prog 66 #[.map (some b), .slice A l.length c, .slice B m.length d] w fun e w' => (∃ v, e = .returned v) ∧ ToldC w0 w' b (n + l.length * mL l) (tellL told l m) ∧ Keeps w w' (fun k => k = b) := by
  intro N
  induction N with
  | zero => intro l m h; omega
  | succ N ih =>
  intro l m hN hl hm A B c d told n w hA hc hB hd hbw hT hn
  refine (callsIn_wide (n := 5)).1 ?_
  obtain ⟨va, hva, hva2⟩ := elems2 hA
  obtain ⟨vb, hvb, hvb2⟩ := elems2 hB
  refine callsIn_of_wp_marks Try.func66 rfl trivial ?_ rfl
  simp only [Try.ntmps66, List.size_toArray, List.length_cons, List.length_nil, Nat.reduceAdd, Nat.reduceSub, Array.replicate_succ, Array.replicate_zero, List.push_toArray, List.append_toArray, List.nil_append, List.cons_append]
  gi_wp2_with (refine ⟨trivial, ?_⟩; gi_at_call 69; refine (pairs_in _ A B l m c d _).mono ?_; rintro e w' ⟨rfl, rfl⟩)
  obtain ⟨W1, hW1⟩ : ∃ W1, ((w.alloc (.cells #[.map (some b)] 96)).alloc (.cells #[.slice A l.length c] 24)).alloc (.cells #[.slice B m.length d] 24) = W1 := ⟨_, rfl⟩
  have hB1 : Below w.heap.size w W1 := by rw [← hW1]; exact bel_alloc (bel_alloc (bel_alloc (Below.refl _ _) _) _) _
  have g0 : W1.heap[w.heap.size]? = some (.cells #[.map (some b)] 96 (0, 0)) := by rw [← hW1]; exact blk_alloc (blk_alloc (blk_new w _) _) _
  have g1 : W1.heap[w.heap.size + 1]? = some (.cells #[.slice A l.length c] 24 (0, 0)) := by
    rw [← hW1]
    have := blk_new (w.alloc (.cells #[.map (some b)] 96)) (.cells #[.slice A l.length c] 24)
    simp only [World.size_alloc] at this
    exact blk_alloc this _
  have g2 : W1.heap[w.heap.size + 1 + 1]? = some (.cells #[.slice B m.length d] 24 (0, 0)) := by
    rw [← hW1]
    have := blk_new ((w.alloc (.cells #[.map (some b)] 96)).alloc (.cells #[.slice A l.length c] 24)) (.cells #[.slice B m.length d] 24)
    simp only [World.size_alloc] at this
    exact this
  have hsz : W1.heap.size = w.heap.size + 3 := by rw [← hW1]; simp
  rw [hW1]
  clear hW1
  have hbb : b < w.heap.size := hT.lt
  have hst := pairs_stops 4 (by decide) b A B l m c d va vb w0 W1 hA.2.1 hB.2.1 hva hvb (w.heap.size + 1) (w.heap.size + 1 + 1) g1 g2 (bel_trans hbw hB1) hb0 (by omega) (by omega)
  have hI0 : TellI w0 w b w.heap.size n l m told [] W1 := ⟨by simpa [foldP] using hT.same (hB1.block b hbb), g0, bel_trans hbw hB1, Keeps.of_below hB1 _, by omega⟩
  have hw0 := hbw.size
  have HI0 := Lib.hid hI0
  have HVA := Lib.hid hva2
  have HVB := Lib.hid hvb2
  have HSZ := Lib.hid hsz
  clear g0 g1 g2 hI0 hva hvb hva2 hvb2
  refine wpIn_rangeFunc_ownH rfl (by decide) (gf := 80) (lb := #[.pointer (some ⟨w.heap.size + 1, 0, none⟩), .pointer (some ⟨w.heap.size + 1 + 1, 0, none⟩)]) rfl trivial (enters_of Try.func80 (by kernel_rfl) rfl) hst Kb.trans (fun W l o o' hl h hc hw => Kb.put W l o o' hl h hc hw) (Below.refl _ _) (fun _ => rfl)
    (TellI w0 w b w.heap.size n l m told) (fun _ _ _ => False) (tellI_own (by omega) (by omega) (by omega)) (fun _ => fun _ _ _ _ h _ _ => h) HI0.out (TellAx A B l m c d b w.heap.size va vb) (fun x a' => tellAx_own A B l m c d b w.heap.size va vb x a' _) ?assign ?body ?done ?stop
  case assign =>
    rintro y pre x W K hI hK
    obtain ⟨A4, c4, ev, _⟩ := HVA.out x
    obtain ⟨B4, d4, eu, _⟩ := HVB.out x
    have hb2 : Below W.heap.size W ((W.alloc (.cells (tyCs (va x)) 29)).alloc (.cells (tyCs (vb x)) 29)) := bel_alloc (bel_alloc (Below.refl _ _) _) _
    have hn4 := hI.sz
    have HI := Lib.hid hI
    have HB2 := Lib.hid hb2
    have HAX := Lib.hid (tyCs_eq ev)
    have HBX := Lib.hid (tyCs_eq eu)
    have HEV := Lib.hid ev
    have HEU := Lib.hid eu
    rw [HAX.out, HBX.out] at HB2
    have HK := Lib.hid hK
    clear hI hb2 hK
    dsimp only
    rw [ev, eu]
    clear ev eu
    generalize l.getD x zTy = p at *
    generalize m.getD x zTy = q at *
    simp only [tyV]
    gi_wp2
    refine HK.out _ _ (keepsFrom_below HB2.out) (Keeps.of_below HB2.out _) (HI.out.later HB2.out) ⟨W.heap.size, W.heap.size + 1, by omega, by omega, ?_, ?_, ?_⟩
    · rw [HAX.out]
      exact blk_alloc (blk_new W _) _
    · rw [HBX.out]
      have := blk_new (W.alloc (.cells #[.int .i64 p.f0, .string p.f1, .string p.f2, .int .i64 p.f3, .slice A4 p.f4.length c4] 29)) (.cells #[.int .i64 q.f0, .string q.f1, .string q.f2, .int .i64 q.f3, .slice B4 q.f4.length d4] 29)
      simp only [World.size_alloc] at this
      exact this
    · rw [HEV.out, HEU.out]; rfl
  case body =>
    rintro y pre x a' W hl1 ⟨rr, hrr⟩ hI ⟨q, r, hq, hr, h1, h2, rfl⟩ hlt
    obtain ⟨A4, c4, ev, lx, gx⟩ := HVA.out x
    obtain ⟨B4, d4, eu, lz, gz⟩ := HVB.out x
    rw [tyCs_eq ev] at h1
    rw [tyCs_eq eu] at h2
    rw [ev, eu]
    clear ev eu
    have o0 := (blk_cell hI.box 0).trans rfl
    have t0 := (blk_cell h1 0).trans rfl
    have t3 := (blk_cell h1 3).trans rfl
    have t4 := (blk_cell h1 4).trans rfl
    have u0 := (blk_cell h2 0).trans rfl
    have u1 := (blk_cell h2 1).trans rfl
    have u2 := (blk_cell h2 2).trans rfl
    have u3 := (blk_cell h2 3).trans rfl
    have u4 := (blk_cell h2 4).trans rfl
    have hpw := tyW_get hl x
    have hqw := tyW_get hm x
    obtain ⟨A5, c5, hlk0, _, _⟩ := hI.t.look (l.getD x zTy).f3 hpw.num (zero_ty W)
    have hlk := hlk0 true
    clear hlk0
    simp only [if_true, tyV] at hlk
    have hend := fun (W6 : World) (k : Nat) => tell_end (W6 := W6) (B := W1.heap.size) (x := x) (k := k) hI (by omega) (by omega) hb0
    have hgr := mL_rd l x
    have hrec := fun h => Nat.lt_of_lt_of_le (mL_szL (l := l) (i := x) h) (Nat.le_of_lt_succ hN)
    have hmx : (pre.length + 1) * mL l ≤ l.length * mL l := Nat.mul_le_mul_right _ (by have := Nat.min_le_left l.length m.length; omega)
    rw [Nat.add_mul] at hmx
    have hbl := hI.bel
    have hT4 := hI.t
    have hbx := hI.box
    have HIW := Lib.hid hI.sz
    rw [tellT_eq] at hend
    generalize l.getD x zTy = p at *
    generalize m.getD x zTy = q' at *
    generalize hTT : foldP l m told pre = T at *
    generalize hzz : (T p.f3).getD zTy = z at *
    obtain ⟨kn, hkn⟩ : ∃ kn, kn = (T p.f3).isSome := ⟨_, rfl⟩
    rw [← hkn] at hlk
    have h15 := blk_alloc h1 (.cells #[.int .i64 z.f0, .string z.f1, .string z.f2, .int .i64 z.f3, .slice A5 z.f4.length c5] 29)
    have h25 := blk_alloc h2 (.cells #[.int .i64 z.f0, .string z.f1, .string z.f2, .int .i64 z.f3, .slice A5 z.f4.length c5] 29)
    have hbx5 := blk_alloc hbx (.cells #[.int .i64 z.f0, .string z.f1, .string z.f2, .int .i64 z.f3, .slice A5 z.f4.length c5] 29)
    have o05 := (blk_cell hbx5 0).trans rfl
    have t05 := (blk_cell h15 0).trans rfl
    have t35 := (blk_cell h15 3).trans rfl
    have t45 := (blk_cell h15 4).trans rfl
    have u05 := (blk_cell h25 0).trans rfl
    have u15 := (blk_cell h25 1).trans rfl
    have u25 := (blk_cell h25 2).trans rfl
    have u35 := (blk_cell h25 3).trans rfl
    have u45 := (blk_cell h25 4).trans rfl
    have HNN := Lib.hid hn
    have HEND := Lib.hid hend
    have HPW := Lib.hid hpw
    have HQW := Lib.hid hqw
    have HREC := Lib.hid hrec
    have HMX := Lib.hid hmx
    have HBL := Lib.hid hbl
    have HT4 := Lib.hid hT4
    have HGX := Lib.hid gx
    have HGZ := Lib.hid gz
    have HTT := Lib.hid hTT
    have HIH := Lib.hid ih
    have HKN := Lib.hid hkn
    have HLM := Lib.hid (And.intro hl hm)
    clear h15 h25 hbx hbx5 hend hpw hqw hrec hmx hbl hT4 gx gz hTT hzz hkn ih hl hm hI h1 h2 HI0 HVA HVB hst hA hB hN hn hlt hT hbw
    simp only [tyV]
    have hcs : (((p.f0 == 6) = false ∧ ((p.f0 == 5) = false ∨ ((p.f0 == 5) = true ∧ (q'.f0 == 5) = false))) ∨ ((p.f0 == 6) = true ∧ (p.f0 == 5) = false ∧ (kn = true ∨ (kn = false ∧ (q'.f0 != 0) = false) ∨ (kn = false ∧ (q'.f0 != 0) = true ∧ (q'.f0 != 7) = false)))) ∧
        ¬ (p.f0 = 6 ∧ T p.f3 = none ∧ q'.f0 ≠ 0 ∧ q'.f0 ≠ 7) ∧ ¬ (p.f0 = 5 ∧ q'.f0 = 5) ∨
        ((p.f0 == 6) = false ∧ (p.f0 == 5) = true ∧ (q'.f0 == 5) = true ∧ ¬ (p.f0 = 6 ∧ T p.f3 = none ∧ q'.f0 ≠ 0 ∧ q'.f0 ≠ 7) ∧ (p.f0 = 5 ∧ q'.f0 = 5)) ∨
        ((p.f0 == 6) = true ∧ kn = false ∧ (q'.f0 != 0) = true ∧ (q'.f0 != 7) = true ∧ (p.f0 = 6 ∧ T p.f3 = none ∧ q'.f0 ≠ 0 ∧ q'.f0 ≠ 7)) := by
      have hk : kn = true ↔ ¬ T p.f3 = none := by rw [HKN.out]; cases T p.f3 <;> simp
      have hk2 : kn = false ↔ T p.f3 = none := by rw [HKN.out]; cases T p.f3 <;> simp
      by_cases h6 : p.f0 = 6
      · have h5 : ¬ p.f0 = 5 := by omega
        by_cases hn : T p.f3 = none
        · by_cases q0 : q'.f0 = 0
          · refine .inl ⟨.inr ⟨by simp [h6], by simp [h5], .inr (.inl ⟨hk2.2 hn, by simp [q0]⟩)⟩, fun h => h.2.2.1 q0, fun h => h5 h.1⟩
          · by_cases q7 : q'.f0 = 7
            · refine .inl ⟨.inr ⟨by simp [h6], by simp [h5], .inr (.inr ⟨hk2.2 hn, by simp [q0], by simp [q7]⟩)⟩, fun h => h.2.2.2 q7, fun h => h5 h.1⟩
            · exact .inr (.inr ⟨by simp [h6], hk2.2 hn, by simp [q0], by simp [q7], h6, hn, q0, q7⟩)
        · refine .inl ⟨.inr ⟨by simp [h6], by simp [h5], .inl (hk.2 hn)⟩, fun h => hn h.2.1, fun h => h5 h.1⟩
      · by_cases h5 : p.f0 = 5
        · by_cases q5 : q'.f0 = 5
          · exact .inr (.inl ⟨by simp [h6], by simp [h5], by simp [q5], fun h => h6 h.1, h5, q5⟩)
          · refine .inl ⟨.inl ⟨by simp [h6], .inr ⟨by simp [h5], by simp [q5]⟩⟩, fun h => h6 h.1, fun h => q5 h.2⟩
        · refine .inl ⟨.inl ⟨by simp [h6], .inl (by simp [h5])⟩, fun h => h6 h.1, fun h => h5 h.1⟩
    rcases hcs with ⟨hcs, n1, n2⟩ | ⟨z1, z2, z3, n1, n2⟩ | ⟨z1, z2, z3, z4, n1⟩
    · rw [if_neg n1, if_neg n2] at HEND
      clear n1 n2
      have hfin := HEND.out (W.alloc (.cells #[.int .i64 z.f0, .string z.f1, .string z.f2, .int .i64 z.f3, .slice A5 z.f4.length c5] 29)) 0 (HT4.out.same (Go.heap_alloc_old W _ HT4.out.lt)) (Nat.zero_le _) (Keeps.alloc (Keeps.refl W _) _)
      have HFIN := Lib.hid hfin
      clear hfin
      rcases hcs with ⟨z1, z2 | ⟨z2, z3⟩⟩ | ⟨z1, z2, z3 | ⟨z3, z4⟩ | ⟨z3, z4, z5⟩⟩
      all_goals
        gi_wp2
        exact HFIN.out
    · rw [if_neg n1, if_pos n2] at HEND
      have hgt : p.f4.length * mL p.f4 ≤ mL l := by
        rw [gT_eq] at hgr
        exact Nat.le_trans (Nat.le_max_right _ _) hgr
      have hb5 : Below W.heap.size W (W.alloc (.cells #[.int .i64 z.f0, .string z.f1, .string z.f2, .int .i64 z.f3, .slice A5 z.f4.length c5] 29)) := bel_alloc (Below.refl _ _) _
      have HC := Lib.hid (HIH.out p.f4 q'.f4 (HREC.out n2.1) HPW.out.sub HQW.out.sub A4 B4 c4 d4 T (n + pre.length * mL l) (W.alloc (.cells #[.int .i64 z.f0, .string z.f1, .string z.f2, .int .i64 z.f3, .slice A5 z.f4.length c5] 29)) HGX.out lx HGZ.out lz (HBL.out.trans (hb5.mono HBL.out.size)) (HT4.out.same (Go.heap_alloc_old W _ HT4.out.lt)) (by have := HMX.out; have := HNN.out; omega))
      have HGT := Lib.hid hgt
      clear n1 n2 hgr hgt hb5
      gi_wp2_with (refine ⟨trivial, ?_⟩; gi_at_call 66; refine (CallsIn.inRound y (callsIn_wide.2 HC.out)).mono ?_; rintro e w6 ⟨⟨v, rfl⟩, hT6, hk6⟩)
      exact HEND.out w6 _ hT6 HGT.out (Keeps.same (Keeps.alloc (Keeps.refl W _) _) hk6)
    · rw [if_pos n1] at HEND
      obtain ⟨w6, hrun, hT6, hk6⟩ := ToldC.put (HT4.out.same (Go.heap_alloc_old W (.cells #[.int .i64 z.f0, .string z.f1, .string z.f2, .int .i64 z.f3, .slice A5 z.f4.length c5] 29) HT4.out.lt)) (by have := HMX.out; have := HNN.out; simp only [maxLen]; omega) p.f3 HPW.out.num q' B4 d4 lz HGZ.out
      simp only [tyV] at hrun
      have hfin := HEND.out w6 1 hT6 (mL_pos l) (Keeps.same (Keeps.alloc (Keeps.refl W _) _) hk6)
      have HFIN := Lib.hid hfin
      clear hfin n1 hT6 hk6
      gi_wp2
      exact HFIN.out
  case done =>
    rintro D xs W hD hS hI hK
    have HI := Lib.hid hI
    have HK := Lib.hid hK
    clear hI hK
    gi_wp2
    have hS' : xs = List.range (min l.length m.length) := hS
    subst hS'
    refine ⟨by simp, .inl ⟨D, _, rfl, run_takeDeferred HK.out, ?_⟩⟩
    refine ⟨_, results_none rfl _ _ _, ⟨_, rfl⟩, ?_, ?_⟩
    · have h := HI.out.t
      rw [foldP_all] at h
      refine (h.same ?_).mono ?_
      · exact World.putObj_heap_other (by have := HSZ.out; omega)
      · have := Nat.mul_le_mul_right (mL l) (Nat.min_le_left l.length m.length)
        rw [List.length_range]
        omega
    · exact Keeps.grown HI.out.kp (grownBy_putObj' W D _) (fun k e => by injection e with e; subst e; exact .inr (by have := HSZ.out; omega))
  case stop =>
    rintro D c pre W hD _ h
    exact h.elim
end Go.Proofs.Ytbhagjhhgmmcgaa
namespace Go.Proofs.Ytbhagjhhgmmcgaa
open Go.RowKit PRef Go.Proofs.YtbhagjhhgmmcgaaW.PrintWords
set_option linter.unusedVariables false

def unifyN (ps qs : List Ty) (n : Int) : List Ty := if 1 ≤ n ∧ n ≤ 16 then unifyL ps qs n.toNat else []
theorem unifyL_len (ps qs : List Ty) (n : Nat) : (unifyL ps qs n).length = n := by simp [unifyL]
theorem unifyL_get (ps qs : List Ty) (n k : Nat) (hk : k < n) : (unifyL ps qs n)[k]? = some (((tellL (fun _ => none) ps qs) (k : Int)).getD zTy) := by
  unfold unifyL
  rw [List.getElem?_map, List.getElem?_range hk]; rfl
/-- The first so many, with zeros behind. -/
def fin (L : List Ty) (k : Nat) : List Ty := L.take k ++ List.replicate (L.length - k) zTy
theorem fin_zero (L : List Ty) : fin L 0 = List.replicate L.length zTy := by simp [fin]
theorem fin_all (L : List Ty) : fin L L.length = L := by simp [fin]
theorem fin_len (L : List Ty) (k : Nat) (hk : k ≤ L.length) : (fin L k).length = L.length := by simp [fin]; omega
theorem fin_get (L : List Ty) (k : Nat) (hk : k < L.length) : (fin L k)[k]? = some zTy := by
  unfold fin
  rw [List.getElem?_append_right (by simp; omega)]
  simp only [List.length_take, Nat.min_eq_left (Nat.le_of_lt hk), Nat.sub_self]
  rw [List.getElem?_replicate, if_pos (by omega)]
theorem fin_set (L : List Ty) (k : Nat) (x : Ty) (hx : L[k]? = some x) : (fin L k).set k x = fin L (k + 1) := by
  obtain ⟨hk, rfl⟩ := List.getElem?_eq_some_iff.1 hx
  unfold fin
  rw [List.set_append_right _ _ (by simp; omega), show L.length - k = (L.length - (k + 1)) + 1 by omega, List.replicate_succ]
  simp only [List.length_take, Nat.min_eq_left (Nat.le_of_lt hk), Nat.sub_self, List.set_cons_zero]
  rw [List.take_succ_eq_append_getElem hk, List.append_assoc]
  rfl
theorem zTy_FK (W : World) (ok : Nat → Prop) : Kd.FK kTy W ok zTy [.int .i64 0, .string ⟨#[]⟩, .string ⟨#[]⟩, .int .i64 0, .slice none 0 0] := fun W' _ => k29_mk W' zTy (A4 := none) (c4 := 0) (Nat.le_refl 0) ⟨rfl, by simp [zTy, z29], fun h => by simp [zTy, z29] at h⟩
theorem TyRow.of_made {W : World} {g B0 B k : Nat} (h : W.heap[g]? = some (.cells (madeCells #[.int .i64 0, .string ⟨#[]⟩, .string ⟨#[]⟩, .int .i64 0, .slice none 0 0] (k * 5)) 29 (0, 0))) : TyRow W g B0 B 0 (List.replicate k zTy) := by
  refine ⟨_, h, fun j x hx => ?_⟩
  rw [List.getElem?_replicate] at hx
  split at hx
  · rename_i hj
    injection hx with hx
    subst hx
    refine ⟨_, rfl, fun i u hu => ?_, zTy_FK _ _⟩
    have hi : i < 5 := (List.getElem?_eq_some_iff.1 hu).1
    have hlt : j * 5 + i < k * 5 := by omega
    unfold madeCells
    rw [Array.getElem?_map, Array.getElem?_range, if_pos hlt]
    simp only [Option.map_some, List.size_toArray, List.length_cons, List.length_nil]
    rw [show (j * 5 + i) % (0 + 1 + 1 + 1 + 1 + 1) = i by omega]
    have hi5 : i = 0 ∨ i = 1 ∨ i = 2 ∨ i = 3 ∨ i = 4 := by omega
    rcases hi5 with rfl | rfl | rfl | rfl | rfl <;> exact hu
  · cases hx
theorem C_F_nil (W : World) (ok : Nat → Prop) (A : Option Addr) : Kd.F kTy W ok A ([] : List Ty).length [] := fun W' _ => ⟨rfl, by simp, fun h => absurd h (by simp)⟩

set_option maxRecDepth 100000 in
set_option maxHeartbeats 4000000 in
theorem unify_any (l m : List Ty) (n : Int) (A B : Option Addr) (c d : Nat) (w0 w : World) (hl : ∀ x ∈ l, TyW x) (hm : ∀ x ∈ m, TyW x) (hgr : l.length * mL l ≤ 9000000000000000000)
    (hA : Kd.C kTy w0 A l.length l) (hc : l.length ≤ c) (hB : Kd.C kTy w0 B m.length m) (hd : m.length ≤ d) (hbw : Below w0.heap.size w0 w) :
    Calls Try.prog 39 #[.slice A l.length c, .slice B m.length d, .int .i64 n] w fun e w' => ∃ A' c', e = .returned (.slice A' (unifyN l m n).length c') ∧ (unifyN l m n).length ≤ c' ∧ Kd.F kTy w' (fun b => w.heap.size ≤ b) A' (unifyN l m n).length (unifyN l m n) ∧ Below w.heap.size w w' := by
  by_cases hn : 1 ≤ n ∧ n ≤ 16
  · obtain ⟨k, rfl⟩ : ∃ k : Nat, n = k := ⟨n.toNat, by omega⟩
    have hU : unifyN l m (k : Int) = unifyL l m k := by unfold unifyN; rw [if_pos hn, Int.toNat_natCast]
    rw [hU, unifyL_len]
    have hn1 : ¬ ((k : Int) < 1) := by omega
    have hn2 : ¬ (16 < (k : Int)) := by omega
    have d1 : decide ((k : Int) < 1) = false := decide_eq_false hn1
    have d2 : decide (16 < (k : Int)) = false := decide_eq_false hn2
    have hk16 : k ≤ 16 := by omega
    have hmm := @run_makeMap Try.prog
    obtain ⟨i0, hi, hz0, hz1, hz2⟩ := info_parts infoTy
    have hms : ∀ W : World, (Instr.makeSlice 24 (.int .i64 (k : Int)) (.int .i64 (k : Int))).run Try.prog W = .ok (.slice (some ⟨W.heap.size, 0, none⟩) k k) (W.alloc (.cells (madeCells #[.int .i64 0, .string ⟨#[]⟩, .string ⟨#[]⟩, .int .i64 0, .slice none 0 0] (k * 5)) 29)) := by
      intro W
      have h := run_make (P := Try.prog) W 24 29 i0 _ Try.underlying24 hi hz0 .i64 .i64 (k : Int) (k : Int) (by omega) (Int.le_refl _) (by rw [hz2]; omega) (by omega)
      rw [Int.toNat_natCast, hz1] at h
      exact h
    have HTELL := Lib.hid (tell_any w0 w.heap.size hbw.size (szL l + 1) l m (by omega) hl hm A B c d (fun _ => none) 0 (w.alloc (.map #[] 0)) hA hc hB hd (hbw.trans ((bel_alloc (Below.refl _ _) _).mono hbw.size)) (ToldC.made w0 w) (by omega))
    have HTW : Hid (∀ i t, tellL (fun _ => none) l m i = some t → TyW t ∧ t.f0 ≠ 0) := Lib.hid (tellL_mem TyW (fun t h => h.sub) l m (fun _ => none) hm (by simp))
    have HBW := Lib.hid hbw
    have HZW := Lib.hid (show TyW zTy from .mk _ (by decide) (by decide) (fun x hx => by simp [zTy, z29] at hx))
    have HG := Lib.hid (fun k' hk' => unifyL_get l m k k' hk')
    have HL := Lib.hid (unifyL_len l m k)
    generalize unifyL l m k = L at *
    generalize tellL (fun _ => none) l m = told at *
    generalize l.length * mL l = mm at *
    clear hU hgr hA hB hl hm hbw hz0 hz1 hz2 hi hn hn1 hn2
    go_enter Try.func39, Try.ntmps39
    go_wp2_with (fail)
    refine HTELL.out.mono ?_
    rintro e w1 ⟨⟨v, rfl⟩, hT, hk1⟩
    have hb1 : Below w.heap.size w w1 := (bel_alloc (Below.refl w.heap.size w) (.map #[] 0)).trans (Keeps.below (B := w.heap.size) hk1 (by simp) (fun k e => by omega))
    have HT := Lib.hid hT
    have HB1 := Lib.hid hb1
    clear HTELL hT hk1 hb1
    go_wp2_with (fail)
    have hg2 : w.heap.size ≤ w1.heap.size := HB1.out.size
    have HROW : Hid (TyRow (w1.alloc (.cells (madeCells #[.int .i64 0, .string ⟨#[]⟩, .string ⟨#[]⟩, .int .i64 0, .slice none 0 0] (k * 5)) 29)) w1.heap.size w.heap.size w.heap.size 0 (fin L 0)) := Lib.hid (by rw [fin_zero, HL.out]; exact TyRow.of_made (blk_new w1 _))
    have HT2 := Lib.hid (HT.out.same (Go.heap_alloc_old w1 (.cells (madeCells #[.int .i64 0, .string ⟨#[]⟩, .string ⟨#[]⟩, .int .i64 0, .slice none 0 0] (k * 5)) 29) HT.out.lt))
    have HB2 := Lib.hid (bel_alloc HB1.out (.cells (madeCells #[.int .i64 0, .string ⟨#[]⟩, .string ⟨#[]⟩, .int .i64 0, .slice none 0 0] (k * 5)) 29))
    have HNE : Hid (w.heap.size ≠ w1.heap.size) := Lib.hid (by have := HT.out.lt; omega)
    have HGG := Lib.hid hg2
    clear HT HB1 hms hmm hg2
    generalize w1.heap.size = g at *
    generalize w1.alloc (.cells (madeCells #[.int .i64 0, .string ⟨#[]⟩, .string ⟨#[]⟩, .int .i64 0, .slice none 0 0] (k * 5)) 29) = w2 at *
    go_loopw [25] (fun iv wr => ∃ j : Nat, iv = .int .i64 j ∧ Hid (j ≤ k) ∧ Hid (TyRow wr g w.heap.size w.heap.size j (fin L j)) ∧ Hid (ToldC w0 wr w.heap.size (0 + mm) told) ∧ Hid (Below w.heap.size w wr)) (fun iv _ => k - (intOf iv).toNat)
    case atStart => exact ⟨0, rfl, Lib.hid (Nat.zero_le _), HROW, HT2, HB2⟩
    case round =>
      clear HROW HT2 HB2
      obtain ⟨j, rfl, HK, HROW, HT, HB⟩ := hrel
      by_cases hlt : j < k
      · have hjL : j < L.length := by rw [HL.out]; exact hlt
        have hjw : (Lit.int .i64 (j : Int)).wf = true := WalkArith.wf_i64 (by omega)
        obtain ⟨A4, c4, hlk0, l4, g4⟩ := HT.out.look (j : Int) hjw (zero_ty wr)
        have hlk := hlk0 false
        clear hlk0
        simp only [Bool.false_eq_true, if_false, tyV] at hlk
        have hget := HG.out j hlt
        have hyw : TyW ((told (j : Int)).getD zTy) := by
          cases hq : told (j : Int) with
          | none => exact HZW.out
          | some t => exact (HTW.out _ _ hq).1
        generalize (told (j : Int)).getD zTy = y at *
        have HSUB := Lib.hid (subst_nil hyw.ok A4 c4 wr (Kd.C_below g4 (HBW.out.trans (HB.out.mono HBW.out.size))) l4)
        obtain ⟨A6, c6, p0, p1, p2, p3, p4, _, _⟩ := HROW.out.get j _ (fin_get L j hjL)
        have HY := Lib.hid hget
        have i0 : 0 ≤ (j : Int) := by omega
        have i1 : (j : Int) < k := by omega
        have HLT := Lib.hid hlt
        have HGL := Lib.hid HROW.out.lt
        simp only [tyV] at HSUB
        clear hget hyw g4 p0 p1 p2 p3 p4
        go_wp2_with (fail)
        refine HSUB.out.mono ?_
        rintro e w3 ⟨A5, c5, rfl, hc5, hF, hb3⟩
        have hrow := HROW.out.step (fun b hlt => hb3.block b hlt)
        obtain ⟨A6, c6, p0, p1, p2, p3, p4, _, _⟩ := hrow.get j _ (fin_get L j hjL)
        have f0' := hrow.free (j * 5)
        have f1' := hrow.free (j * 5 + 1)
        have f2' := hrow.free (j * 5 + 2)
        have f3' := hrow.free (j * 5 + 3)
        have f4' := hrow.free (j * 5 + 4)
        have hFK : Kd.FK kTy w3 (fun b => b ≠ g ∧ w.heap.size ≤ b) y [.int .i64 y.f0, .string y.f1, .string y.f2, .int .i64 y.f3, .slice A5 y.f4.length c5] := by
          intro W' hW
          refine k29_mk W' y hc5 (hF W' (fun b hb hlt => hW b ?_ hlt))
          have h1 := HGL.out
          have h2 := HB.out.size
          omega
        have hput := hrow.putX (by rw [fin_len _ _ (by omega)]; exact hjL) _ (fin_get L j hjL) y _ _ _ _ _ hFK
        rw [fin_set _ _ _ HY.out] at hput
        have HPUT := Lib.hid hput
        have HB4 := Lib.hid (bel_trans HB.out hb3)
        have HT4 := Lib.hid (HT.out.same (hb3.block _ HT.out.lt))
        clear hput hFK hF hb3 hrow HROW HB HT HSUB hlk
        simp only [zTy, z29] at p0 p1 p2 p3 p4
        go_wp2_with (fail)
        go_roundw
        case rel =>
          have h2 := HNE.out
          have h3 := HGG.out
          refine ⟨j + 1, by go_num, Lib.hid HLT.out, HPUT, Lib.hid (HT4.out.same ?_), Lib.hid ?_⟩
          · rw [blk_far _ _ _ _ _ h2, blk_far _ _ _ _ _ h2, blk_far _ _ _ _ _ h2, blk_far _ _ _ _ _ h2, blk_far _ _ _ _ _ h2]
          · iterate 5 refine Below.setCell ?_ (by simp only; omega) _
            exact HB4.out
        case measure =>
          have := HLT.out
          simp [intOf]
          omega
      · obtain rfl : j = k := by have := HK.out; omega
        go_wp2_with (fail)
        go_ret
        have h := HROW.out
        rw [← HL.out, fin_all] at h
        refine ⟨_, _, rfl, Nat.le_refl _, ?_, HB.out⟩
        rw [← HL.out]
        exact TyRow.F h HGG.out (by rw [HL.out]; omega)
  · have hU : unifyN l m n = [] := by unfold unifyN; rw [if_neg hn]
    rw [hU]
    have hcs : decide (n < 1) = true ∨ (decide (n < 1) = false ∧ decide (16 < n) = true) := by
      by_cases h1 : n < 1
      · exact .inl (decide_eq_true h1)
      · exact .inr ⟨decide_eq_false h1, decide_eq_true (by omega)⟩
    clear hU hA hB hl hm hbw hgr hn
    rcases hcs with z1 | ⟨z1, z2⟩
    all_goals
      go_enter Try.func39, Try.ntmps39
      go_wp2_with (fail)
      go_ret
      exact ⟨none, 0, rfl, Nat.le_refl _, C_F_nil _ _ _, Below.refl _ _⟩
end Go.Proofs.Ytbhagjhhgmmcgaa
