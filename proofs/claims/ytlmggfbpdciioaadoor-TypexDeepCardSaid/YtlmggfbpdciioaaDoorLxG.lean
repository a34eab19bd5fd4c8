/- lex: All. -/
import Derived.Test.YtlmggfbpdciioaaDoorLxF
import Derived.Scope
import Derived.WalkMore
namespace Go.Proofs.YtlmggfbpdciioaaDoor
open Go.RowKit Go.Shelf
set_option linter.unusedVariables false
attribute [local go_sem] Oper.semAt_some

theorem info31w : (Tryd.prog.info? 31).map (fun i => (i.zero, i.size, i.bytes)) = some (some (.agg #[.int .i64 0, .int .i64 0, .int .i64 0, .string ByteArray.empty]), 4, 40) := by kernel_rfl

def itC (x : It) : List Value := [.int .i64 (x.kd : Int), .int .i64 (x.at_ : Int), .int .i64 (x.en : Int), .string x.tx]
theorem itC_len (l : List It) : (l.flatMap itC).length = l.length * 4 := by
  induction l with
  | nil => rfl
  | cons x l ih => simp [itC, ih]; omega
theorem itC_snoc (l : List It) (x : It) : (l ++ [x]).flatMap itC = l.flatMap itC ++ itC x := by simp

/-- A turn of a block that is no cells leaves cells alone. -/
theorem cells_kept {B : Nat} {W W' : World} {row : Option Nat} (hg : W.grownBy W' row) (hr : ∀ r, row = some r → B ≤ r ∧ ∃ o : Obj, W.heap[r]? = some o ∧ o.isCells = false) {k : Nat} {cs : Array Value} {t : TypeId} {fr : Nat × Nat} (h : W.heap[k]? = some (.cells cs t fr)) :
    W'.heap[k]? = some (.cells cs t fr) :=
  (hg.block k (lt_of_heap h) (fun e => by
    obtain ⟨_, o, ho, hc⟩ := hr k e.symm
    rw [h] at ho
    injection ho with ho
    subst ho
    cases hc)).trans h
theorem row_kept {B : Nat} {W W' : World} {row : Option Nat} (hg : W.grownBy W' row) (hr : ∀ r, row = some r → B ≤ r ∧ ∃ o : Obj, W.heap[r]? = some o ∧ o.isCells = false) {base : Nat} {e : TypeId} {size n : Nat} {v : Value} {xs : List Value} (h : W.ownsRow base e size v n xs) : W'.ownsRow base e size v n xs :=
  own_kept h fun g hg' => by
    rcases h.2 with ⟨rfl, _⟩ | ⟨g', cap, cur, rfl, hbg, hh, rest⟩
    · simp [Value.ownBlock] at hg'
    · have : g' = g := by simpa [Value.ownBlock] using hg'
      subst this
      rw [cells_kept hg hr hh, hh]
theorem below_kept {B n₀ : Nat} {w W W' : World} {row : Option Nat} (hg : W.grownBy W' row) (hr : ∀ r, row = some r → B ≤ r ∧ ∃ o : Obj, W.heap[r]? = some o ∧ o.isCells = false) (hn : n₀ ≤ B) (hs : n₀ ≤ W.heap.size) (h : Below n₀ w W) : Below n₀ w W' :=
  h.grown hg hs (fun k hk => by have := (hr k hk).1; omega)

/-- Between two rounds. -/
structure AllI (w : World) (pre : List It) (W : World) : Prop where
  ex : ∃ v, W.heap[w.heap.size + 1]? = some (.cells #[v] 23 (0, 0)) ∧ W.ownsRow w.heap.size 31 4 v pre.length (pre.flatMap itC)
  res : W.heap[w.heap.size]? = some (.cells #[.int .i64 0, .int .i64 0] 25 (0, 0))
  wr : W.heap[w.heap.size + 1 + 1]? = some (.cells #[.int .i64 0, .int .i64 0] 25 (0, 0))
  ok : ∀ x ∈ pre, x.da = 0 ∧ x.dc = 0
  bel : Below w.heap.size w W
structure AllIx (w : World) (c : Code) (pre : List It) (W : World) : Prop where
  cx : c = .exit 0
  ex : ∃ p0 v, pre = p0 ++ [v] ∧ ¬ (v.da = 0 ∧ v.dc = 0) ∧ W.heap[w.heap.size + 1 + 1]? = some (.cells #[.int .i64 (v.da : Int), .int .i64 (v.dc : Int)] 25 (0, 0))
  out : W.heap[w.heap.size + 1]? = some (.cells #[.slice none 0 0] 23 (0, 0))
  res : W.heap[w.heap.size]? = some (.cells #[.int .i64 0, .int .i64 0] 25 (0, 0))
  bel : Below w.heap.size w W
/-- The loop's variables. -/
structure AllAx (s : ByteArray) (B : Nat) (x : It) (a : Act) (W : World) : Prop where
  ex : ∃ bt bd, B + 3 ≤ bt ∧ B + 3 ≤ bd ∧ W.heap[bt]? = some (.cells #[.int .i64 (x.kd : Int), .int .i64 (x.at_ : Int), .int .i64 (x.en : Int), .string x.tx] 31 (0, 0)) ∧ W.heap[bd]? = some (.cells #[.int .i64 (x.da : Int), .int .i64 (x.dc : Int)] 25 (0, 0)) ∧
    a = { tmps := #[.string s, undef, .slice none 0 0, .pointer (some ⟨B, 0, none⟩), .pointer (some ⟨B + 1, 0, none⟩), .pointer (some ⟨B + 1 + 1, 0, none⟩), .pointer (some ⟨bt, 0, none⟩), .pointer (some ⟨bd, 0, none⟩), .string s,
      .func (.func 36) #[] #[.pointer (some ⟨B + 1 + 1 + 1, 0, none⟩)], itT x, itD x, undef, undef, undef, undef, undef, undef, undef, undef, undef, undef], defers := [] }

theorem allI_own (w : World) {B : Nat} (hB : w.heap.size ≤ B) : OwnFrom B (AllI w) := by
  intro pre W W' row h hg hr
  obtain ⟨v, h1, h2⟩ := h.ex
  exact ⟨⟨v, cells_kept hg hr h1, row_kept hg hr h2⟩, cells_kept hg hr h.res, cells_kept hg hr h.wr, h.ok, below_kept hg hr hB h.bel.size h.bel⟩
theorem allIx_own (w : World) {B : Nat} (hB : w.heap.size ≤ B) (c : Code) : OwnFrom B (AllIx w c) := by
  intro pre W W' row h hg hr
  obtain ⟨p0, v, h1, h2, h3⟩ := h.ex
  exact ⟨h.cx, ⟨p0, v, h1, h2, cells_kept hg hr h3⟩, cells_kept hg hr h.out, cells_kept hg hr h.res, below_kept hg hr hB h.bel.size h.bel⟩
theorem allAx_own (s : ByteArray) (b : Nat) (x : It) (a : Act) (B : Nat) : OwnFrom B (fun (_ : Unit) W => AllAx s b x a W) := by
  intro _ W W' row h hg hr
  obtain ⟨bt, bd, h0, h0', h1, h2, h3⟩ := h.ex
  exact ⟨bt, bd, h0, h0', cells_kept hg hr h1, cells_kept hg hr h2, h3⟩

theorem Kp.of_below {bo bw : Nat} {A B : World} (hbo : bo < A.heap.size) (h : Below A.heap.size A B) : Kp bo bw A B :=
  ⟨h.size, fun k o hk _ _ _ _ => (h.block k (lt_of_heap hk)).trans hk, .inl (rowAt_same (h.block bo hbo))⟩
theorem AllI.later {w : World} {pre : List It} {W W' : World} (h : AllI w pre W) (hb : Below W.heap.size W W') : AllI w pre W' := by
  obtain ⟨v, h1, h2⟩ := h.ex
  exact ⟨⟨v, blk_later hb h1, own_later h2 hb⟩, blk_later hb h.res, blk_later hb h.wr, h.ok, h.bel.trans ⟨hb.os, hb.tape, hb.output, hb.size, fun k hk => hb.block k (Nat.lt_of_lt_of_le hk h.bel.size)⟩⟩
theorem keepsFrom_below {B : Nat} {W W' : World} (hb : Below W.heap.size W W') : KeepsFrom B W W' := ⟨hb.size, fun k o _ hk _ => (hb.block k (lt_of_heap hk)).trans hk⟩

theorem all_break {w W : World} {x : It} {pre : List It} {va vc : Value} {B : Nat} (hI : AllI w pre W) (hz : ¬ (x.da = 0 ∧ x.dc = 0)) (hva : va = .int .i64 (x.da : Int)) (hvc : vc = .int .i64 (x.dc : Int)) :
    KeepsFrom B W (((W.setCell ⟨w.heap.size + 1, 0, none⟩ (.slice none 0 0)).setCell ⟨w.heap.size + 1 + 1, 0, none⟩ va).setCell ⟨w.heap.size + 1 + 1, 1, none⟩ vc).drew ∧
    AllIx w (.exit 0) (pre ++ [x]) (((W.setCell ⟨w.heap.size + 1, 0, none⟩ (.slice none 0 0)).setCell ⟨w.heap.size + 1 + 1, 0, none⟩ va).setCell ⟨w.heap.size + 1 + 1, 1, none⟩ vc).drew := by
  subst hva
  subst hvc
  obtain ⟨v, hv, _⟩ := hI.ex
  refine ⟨?_, rfl, ⟨pre, x, rfl, hz, ?_⟩, ?_, ?_, ?_⟩
  · exact ((((KeepsOthers.setCell _ _ _).trans (KeepsOthers.setCell _ _ _)).trans (KeepsOthers.setCell _ _ _)).trans (KeepsOthers.drew _)).from _
  · have h1 := (blk_far W (w.heap.size + 1) 0 (w.heap.size + 1 + 1) (.slice none 0 0) (by omega)).trans hI.wr
    exact (blk_set (blk_set h1 0 _) 1 _).trans rfl
  · have h1 := blk_set hv 0 (.slice none 0 0)
    exact ((blk_far _ _ _ _ _ (by omega)).trans ((blk_far _ _ _ _ _ (by omega)).trans h1)).trans rfl
  · exact ((blk_far _ _ _ _ _ (by omega)).trans ((blk_far _ _ _ _ _ (by omega)).trans ((blk_far _ _ _ _ _ (by omega)).trans hI.res)))
  · exact bel_drew (bel_set (bel_set (bel_set hI.bel (by omega)) (by omega)) (by omega))

theorem new_cells (W : World) (cs : Array Value) (t : TypeId) : ∀ j u, cs.toList[j]? = some u → (W.alloc (.cells cs t)).cell? ((⟨W.heap.size, 0, none⟩ : Addr).add j) = some u := by
  intro j u hu
  have : (⟨W.heap.size, 0, none⟩ : Addr).add j = ⟨W.heap.size, j, none⟩ := by
    unfold Addr.add
    split <;> simp_all
  rw [this, blk_cell (blk_new W _)]
  simpa using hu

theorem all_append {w W w1 : World} {x : It} {pre : List It} {v v' : Value} {tmp : Obj} (hI : AllI w pre W) (hv : W.heap[w.heap.size + 1]? = some (.cells #[v] 23 (0, 0))) (hrow : W.ownsRow w.heap.size 31 4 v pre.length (pre.flatMap itC)) (hz : x.da = 0 ∧ x.dc = 0)
    (hown : w1.ownsRow w.heap.size 31 4 v' (pre.length + 1) (pre.flatMap itC ++ itC x)) (hg : (W.alloc tmp).grownBy w1 v.ownBlock) (hat : v'.ownBlock = v.ownBlock ∨ v'.ownBlock = some (W.alloc tmp).heap.size) {B : Nat} :
    KeepsFrom B W (w1.setCell ⟨w.heap.size + 1, 0, none⟩ v') ∧ Kp (w.heap.size + 1) (w.heap.size + 1 + 1) W (w1.setCell ⟨w.heap.size + 1, 0, none⟩ v') ∧ AllI w (pre ++ [x]) (w1.setCell ⟨w.heap.size + 1, 0, none⟩ v') := by
  obtain ⟨hv1, hv2, hr2, hk2, hb2⟩ := Boxed.appended (n₀ := w.heap.size) (B := w.heap.size + 1) (t := 23) hv (by decide) hrow hI.bel.size (by omega) hown hg
  have hro : rowAt (w.heap.size + 1) W = v.ownBlock := by
    unfold rowAt
    rw [hv]
    rcases hrow.2 with ⟨rfl, _⟩ | ⟨g, cap, cur, rfl, _⟩ <;> rfl
  have hro' : rowAt (w.heap.size + 1) (w1.setCell ⟨w.heap.size + 1, 0, none⟩ v') = v'.ownBlock := by
    unfold rowAt
    rw [show (w1.setCell ⟨w.heap.size + 1, 0, none⟩ v').heap[w.heap.size + 1]? = _ from hv2]
    rcases hr2.2 with ⟨rfl, _⟩ | ⟨g, cap, cur, rfl, _⟩ <;> rfl
  have kept : ∀ k o, W.heap[k]? = some o → k ≠ w.heap.size + 1 → v.ownBlock ≠ some k → (w1.setCell ⟨w.heap.size + 1, 0, none⟩ v').heap[k]? = some o := by
    intro k o hk h1 h2
    exact ((blk_far _ _ _ _ _ h1).trans (hg.block k (by have := lt_of_heap hk; simp; omega) (fun e => h2 e.symm))).trans (blk_alloc hk _)
  have hne : ∀ k cs t f, W.heap[k]? = some (.cells cs t f) → t ≠ 31 → v.ownBlock ≠ some k := by
    intro k cs t f hk ht
    exact own_ne hrow hk (by intro cs' f' e; injection e with _ e; exact ht e)
  refine ⟨hk2.from _, ⟨hk2.size, fun k o hk _ h1 _ h3 => kept k o hk h1 (by rw [← hro]; exact h3), ?_⟩, ⟨v', hv2, ?_⟩, kept _ _ hI.res (by omega) (hne _ _ _ _ hI.res (by decide)), kept _ _ hI.wr (by omega) (hne _ _ _ _ hI.wr (by decide)), ?_, hI.bel.trans hb2⟩
  · rw [hro', hro]
    rcases hat with h | h
    · exact .inl h
    · refine .inr fun g hg' => ?_
      have h1 := (hr2.lt g hg').2
      rw [h] at hg'
      injection hg' with hg'
      simp at hg'
      omega
  · rw [itC_snoc, List.length_append]
    exact hr2
  · intro y hy
    rcases List.mem_append.1 hy with h | h
    · exact hI.ok y h
    · simp at h
      subst h
      exact hz

/-- What All hands back. -/
def outT (T : List Tk) (e : Option (Nat × Nat)) : List Tk := if e.isNone then T else []
def outA (e : Option (Nat × Nat)) : Nat := (e.map (·.1)).getD 0
def outC (e : Option (Nat × Nat)) : Nat := (e.map (·.2)).getD 0
def AllPost (s : ByteArray) (T : List Tk) (e : Option (Nat × Nat)) (w : World) (r : Ending) (W : World) : Prop :=
  ∃ v, r = .returned (.tuple #[v, .agg #[.int .i64 (outA e : Int), .int .i64 (outC e : Int)]]) ∧ W.ownsRow w.heap.size 31 4 v (outT T e).length (((outT T e).map (good s)).flatMap itC) ∧ Below w.heap.size w W

theorem results_tmp_cell {fn : Func} {p u : Tmp} {ty : TypeId} (h : fn.results = #[.tmp u, .cell p ty]) (tmps : Array Value) (P : Program) (w : World) :
    (results fn tmps).run P w =
      ((asAddr (tmps.getD p undef)).run P w).andThen fun a w₁ => ((loadVar ty a).run P w₁).andThen fun v w₂ => .ok (.tuple #[tmps.getD u undef, v]) w₂ := by
  simp only [results, h]
  simp [Sem.run_bind, Result.andThen]
theorem info25 : (Tryd.prog.info? 25).map (·.size) = some 2 := by kernel_rfl
theorem all_end {n : Nat} {w : World} {s : ByteArray} {T : List Tk} {e : Option (Nat × Nat)} {a : Act} {W : World} {D B : Nat} {v d0 d1 : Value} (hB : W.heap[B]? = some (.cells #[d0, d1] 25 (0, 0))) (hK : W.heap[D]? = some (.deferred (some [])))
    (hp : a.tmps.getD 3 undef = .pointer (some ⟨B, 0, none⟩)) (hv : a.tmps.getD 2 undef = v) (hd : a.defers = [{ target := Target.collected D, args := #[] }])
    (hQ : AllPost s T e w (.returned (.tuple #[v, .agg #[d0, d1]])) (W.putObj D (.deferred none))) :
    bodyPostM Fence.wide n Tryd.prog Tryd.f15 (AllPost s T e w) .ret a W := by
  have hne : B ≠ D := by
    rintro rfl
    rw [hB] at hK
    cases hK
  have hB' : (W.putObj D (.deferred none)).heap[B]? = some (.cells #[d0, d1] 25 (0, 0)) :=
    ((grownBy_putObj' W D (.deferred none)).block B (lt_of_heap hB) (fun e => hne (by injection e))).trans hB
  show LeavesInM Fence.wide n Tryd.prog Tryd.f15 a.tmps (AllPost s T e w) a.defers .returning W
  rw [hd]
  refine ⟨by simp, .inl ⟨_, _, rfl, run_takeDeferred hK, ?_⟩⟩
  · refine ⟨_, (results_tmp_cell (p := 3) (u := 2) (ty := 25) rfl a.tmps Tryd.prog _).trans ?_, hQ⟩
    rw [hp, hv]
    have h3 := run_loadVar_row (P := Tryd.prog) _ B 25 25 #[d0, d1] (0, 0) _ hB' Tryd.underlying25 rfl (info25.trans rfl)
    simp only [asAddr, Sem.run_pure, Result.andThen_ok, h3]

set_option maxRecDepth 100000 in
set_option maxHeartbeats 2000000 in
theorem all_in (n : Nat) (hn : 5 ≤ n) (s : ByteArray) (hs : s.size ≤ 9223372036854775806) (w : World) (ht : Tab w) (T : List Tk) (e : Option (Nat × Nat)) (hL : Lx 0 0 s.data.toList T e) :
    CallsIn Fence.wide n Tryd.prog 15 #[.string s] w (AllPost s T e w) := by
  have h1 : 1 ≤ n := by omega
  obtain ⟨i0, hi, hzz, hzs, hzb⟩ := info_parts info31w
  refine callsIn_of_wp_marks Tryd.func15 rfl trivial ?_ rfl
  simp only [Tryd.ntmps15, List.size_toArray, List.length_cons, List.length_nil, Nat.reduceAdd, Nat.reduceSub, Array.replicate_succ, Array.replicate_zero, List.push_toArray, List.append_toArray, List.nil_append, List.cons_append]
  gi_wp2
  rw [wpIn_wide]
  refine wp_scope_straight ?_
  rw [← wpIn_wide (n := n)]
  gi_wp2
  refine wpIn_label ?_
  gi_wp2_with (refine ⟨trivial, ?_⟩; gi_at_call 27; refine (tokens_in (n - 1) s _).mono ?_; rintro e w' ⟨rfl, rfl⟩)
  obtain ⟨W0, hW0⟩ : ∃ W0, ((((w.alloc (.cells #[.int .i64 0, .int .i64 0] 25)).alloc (.cells #[.slice none 0 0] 23)).alloc (.cells #[.int .i64 0, .int .i64 0] 25)).alloc (.cells #[.string s] 9)) = W0 := ⟨_, rfl⟩
  have g0 : W0.heap[w.heap.size]? = some (.cells #[.int .i64 0, .int .i64 0] 25 (0, 0)) := by rw [← hW0]; exact blk_alloc (blk_alloc (blk_alloc (blk_new w _) _) _) _
  have g1 : W0.heap[w.heap.size + 1]? = some (.cells #[.slice none 0 0] 23 (0, 0)) := by
    rw [← hW0]
    have := blk_new (w.alloc (.cells #[.int .i64 0, .int .i64 0] 25)) (.cells #[.slice none 0 0] 23)
    simp only [World.size_alloc] at this
    exact blk_alloc (blk_alloc this _) _
  have g2 : W0.heap[w.heap.size + 1 + 1]? = some (.cells #[.int .i64 0, .int .i64 0] 25 (0, 0)) := by
    rw [← hW0]
    have := blk_new ((w.alloc (.cells #[.int .i64 0, .int .i64 0] 25)).alloc (.cells #[.slice none 0 0] 23)) (.cells #[.int .i64 0, .int .i64 0] 25)
    simp only [World.size_alloc] at this
    exact blk_alloc this _
  have g3 : W0.heap[w.heap.size + 1 + 1 + 1]? = some (.cells #[.string s] 9 (0, 0)) := by
    rw [← hW0]
    have := blk_new (((w.alloc (.cells #[.int .i64 0, .int .i64 0] 25)).alloc (.cells #[.slice none 0 0] 23)).alloc (.cells #[.int .i64 0, .int .i64 0] 25)) (.cells #[.string s] 9)
    simp only [World.size_alloc] at this
    exact this
  have hsz : W0.heap.size = w.heap.size + 4 := by rw [← hW0]; simp
  have hbel : Below w.heap.size w W0 := by rw [← hW0]; exact bel_alloc (bel_alloc (bel_alloc (bel_alloc (Below.refl _ _) _) _) _) _
  rw [hW0]
  clear hW0
  have hr0 : rowAt (w.heap.size + 1) W0 = none := by unfold rowAt; rw [g1]; rfl
  have hst := toks_stops (n - 1) (by omega) s hs (w.heap.size + 1 + 1 + 1) (w.heap.size + 1) (w.heap.size + 1 + 1) W0 g3 (by omega) (by omega) (by omega) (by omega) hr0 (ht.later hbel) T e hL
  have hI0 : AllI w [] W0 := ⟨⟨_, g1, World.ownsRow_nil _ _ _ _⟩, g0, g2, (fun x hx => by cases hx), hbel⟩
  have HI0 := Lib.hid hI0
  have HSZ := Lib.hid hsz
  have HBEL := Lib.hid hbel
  clear g0 g1 g2 g3 hr0 hI0 hbel
  refine wpIn_rangeFunc_ownH rfl h1 (gf := 36) (lb := #[.pointer (some ⟨w.heap.size + 1 + 1 + 1, 0, none⟩)]) rfl trivial (enters_of Tryd.func36 (by kernel_rfl) rfl) hst Kp.trans (fun W l o o' hl h hc hw => Kp.put (by omega) W l o o' hl h hc hw) (Below.refl _ _) (fun _ => rfl)
    (AllI w) (AllIx w) (allI_own w (by omega)) (allIx_own w (by omega)) HI0.out (AllAx s w.heap.size) (fun x a' => allAx_own s w.heap.size x a' _) ?assign ?body ?done ?stop
  case assign =>
    rintro l pre x W K hI hK
    have hbW := hI.bel.size
    have hbo := lt_of_heap hI.res
    obtain ⟨v, hv, _⟩ := hI.ex
    have hbo1 := lt_of_heap hv
    have hb2 : Below W.heap.size W ((W.alloc (.cells #[.int .i64 (x.kd : Int), .int .i64 (x.at_ : Int), .int .i64 (x.en : Int), .string x.tx] 31)).alloc (.cells #[.int .i64 (x.da : Int), .int .i64 (x.dc : Int)] 25)) := bel_alloc (bel_alloc (Below.refl _ _) _) _
    have hn4 : w.heap.size + 3 ≤ W.heap.size := by have := lt_of_heap hI.wr; omega
    have HI := Lib.hid hI
    have HB2 := Lib.hid hb2
    clear hI hb2 hv
    dsimp only [encs, itT, itD]
    gi_wp2
    refine hK _ _ (keepsFrom_below HB2.out) (Kp.of_below hbo1 HB2.out) (HI.out.later HB2.out) ⟨W.heap.size, W.heap.size + 1, hn4, by omega, blk_alloc (blk_new W _) _, ?_, rfl⟩
    have := blk_new (W.alloc (.cells #[.int .i64 (x.kd : Int), .int .i64 (x.at_ : Int), .int .i64 (x.en : Int), .string x.tx] 31)) (.cells #[.int .i64 (x.da : Int), .int .i64 (x.dc : Int)] 25)
    simp only [World.size_alloc] at this
    exact this
  case body =>
    rintro l pre x a' W hl ⟨r, hr⟩ hI ⟨bt, bd, hbt, hbd, ht1, hd1, rfl⟩ hlt
    have t0 := (blk_cell ht1 0).trans rfl
    have t1 := (blk_cell ht1 1).trans rfl
    have t2 := (blk_cell ht1 2).trans rfl
    have t3 := (blk_cell ht1 3).trans rfl
    have d0 := (blk_cell hd1 0).trans rfl
    have d1 := (blk_cell hd1 1).trans rfl
    obtain ⟨v, hv, hrow⟩ := hI.ex
    have o0 := (blk_cell hv 0).trans rfl
    have of := blk_free hv 0
    have r0 := (blk_cell hI.wr 0).trans rfl
    have r1 := (blk_cell hI.wr 1).trans rfl
    have rf0 := blk_free hI.wr 0
    have rf1 := blk_free hI.wr 1
    by_cases hz : x.da = 0 ∧ x.dc = 0
    · have HI := Lib.hid hI
      have HV := Lib.hid hv
      have HROW := Lib.hid hrow
      have HZ := Lib.hid hz
      have hz1 := hz.1
      have hz2 := hz.2
      obtain ⟨kd, at_, en, tx, da, dc⟩ := x
      simp only at hz1 hz2
      subst hz1 hz2
      clear hI hv hrow hz
      have hpl : pre.length + 1 ≤ maxLen := by simp only [maxLen]; omega
      have hpb : (pre.length + 1) * 40 ≤ 140737488355328 := by omega
      have hbs : w.heap.size ≤ (W.alloc (.cells #[.int .i64 (kd : Int), .int .i64 (at_ : Int), .int .i64 (en : Int), .string tx] 31)).heap.size := by have := HI.out.bel.size; simp; omega
      have HPL := Lib.hid hpl
      have HPB := Lib.hid hpb
      have HBS := Lib.hid hbs
      clear hpl hpb hbs
      gi_wp2_with (gi_at_builtin; go_loud (refine wpListIn_append_own_at _ rfl _ _ 23 rfl w.heap.size 31 i0 _ 4 40 Tryd.underlying23 hi hzz hzs hzb rfl (by decide) v pre.length (pre.flatMap itC) rfl (HROW.out.alloc _) ⟨W.heap.size, 0, none⟩ 1 1 (itC ⟨kd, at_, en, tx, 0, 0⟩) rfl rfl (new_cells W _ 31) (by simp [itC, Value.oneCell']) HPL.out HPB.out HBS.out ?_; intro v' w1 hown' hgrow _ hat; obtain ⟨g', cap', rfl⟩ := ownsRow_succ hown'; have hv1 := (hgrow.block (w.heap.size + 1) (by have := lt_of_heap HV.out; simp; omega) (fun e => own_ne HROW.out HV.out (by intro cs' f' e; injection e with _ e; cases e) e.symm)).trans (blk_alloc HV.out _); have hc1 := (blk_cell hv1 0).trans rfl; have hf1 := blk_free hv1 0; have HOWN := Lib.hid hown'; have HG := Lib.hid hgrow; have HAT := Lib.hid hat; clear hown' hgrow hat hv1))
      exact all_append HI.out HV.out HROW.out ⟨rfl, rfl⟩ HOWN.out HG.out HAT.out
    · have HI := Lib.hid hI
      have HV := Lib.hid hv
      have HROW := Lib.hid hrow
      have HZ := Lib.hid hz
      clear hI hv hrow
      gi_wp2
      all_goals
        gi_region
        all_goals gi_wp2
        all_goals exact all_break HI.out HZ.out (by simp [*]) (by simp [*])
  case done =>
    rintro D xs W hD hS hI hK
    have hxs : e = none ∧ xs = T.map (good s) := by
      rcases hS with h | ⟨v, he, hx⟩
      · exact h
      · have h2 := (lx_err hL v.da v.dc he).2.2
        have h3 := (hI.ok v (by rw [hx]; simp)).2
        exact absurd h3 h2
    obtain ⟨rfl, rfl⟩ := hxs
    obtain ⟨v, hv, hrow⟩ := hI.ex
    have o0 := (blk_cell hv 0).trans rfl
    have r0 := (blk_cell hI.wr 0).trans rfl
    have r1 := (blk_cell hI.wr 1).trans rfl
    have z0 := (blk_cell hI.res 0).trans rfl
    have z1 := (blk_cell hI.res 1).trans rfl
    have zf0 := blk_free hI.res 0
    have zf1 := blk_free hI.res 1
    have HV := Lib.hid hv
    have HROW := Lib.hid hrow
    have HI := Lib.hid hI
    have HK := Lib.hid hK
    clear hv hrow hI hK hS
    gi_wp2
    gi_region
    all_goals gi_wp2
    rw [Exit.noGoto_ret]
    have h0 := HI.out.res
    have hb := HI.out.bel
    have hro : w.heap.size ≠ D := by have := HSZ.out; omega
    refine all_end (B := w.heap.size) (D := D) (v := v) (d0 := .int .i64 0) (d1 := .int .i64 0) ((blk_set (blk_set h0 0 _) 1 _).trans rfl) ?_ rfl rfl rfl ⟨v, rfl, ?_, ?_⟩
    · rw [← HK.out]
      exact (blk_far _ _ _ _ _ (by omega)).trans (blk_far _ _ _ _ _ (by omega))
    · rw [show outT T none = T from rfl]
      have hrw := HROW.out
      rw [List.length_map] at hrw
      have h1 : (((W.setCell ⟨w.heap.size, 0, none⟩ (.int .i64 0)).setCell ⟨w.heap.size, 1, none⟩ (.int .i64 0)).drew).ownsRow w.heap.size 31 4 v T.length ((T.map (good s)).flatMap itC) := by
        refine own_kept hrw fun g hg => ?_
        have hgne : g ≠ w.heap.size := by
          rintro rfl
          exact own_ne hrw h0 (by intro cs' f' e; injection e with _ e; cases e) hg
        exact (blk_far _ _ _ _ _ hgne).trans (blk_far _ _ _ _ _ hgne)
      exact ownsRow_putObj h1 _ ((blk_far _ _ _ _ _ (Ne.symm hro)).trans ((blk_far _ _ _ _ _ (Ne.symm hro)).trans HK.out)) rfl
    · refine (bel_drew (bel_set (bel_set hb (Nat.le_refl _)) (Nat.le_refl _))).trans (belowK_b (w := w) (Nat.le_refl _) _ D _ _ (by have := HSZ.out; omega) ((blk_far _ _ _ _ _ (Ne.symm hro)).trans ((blk_far _ _ _ _ _ (Ne.symm hro)).trans HK.out)) rfl rfl)
  case stop =>
    rintro D c pre W hD ⟨xs, hS, hpre⟩ hI hK
    obtain ⟨p0, v, rfl, hz, hw⟩ := hI.ex
    obtain rfl := hI.cx
    have hxs : e = some (v.da, v.dc) := by
      obtain ⟨rest, hrest⟩ := hpre
      have hmem : v ∈ xs := by rw [← hrest]; simp
      rcases hS with ⟨_, hx⟩ | ⟨v', he, hx⟩
      · rw [hx] at hmem
        obtain ⟨t, _, rfl⟩ := List.mem_map.1 hmem
        exact absurd ⟨rfl, rfl⟩ hz
      · rw [hx] at hmem
        rcases List.mem_append.1 hmem with h | h
        · obtain ⟨t, _, rfl⟩ := List.mem_map.1 h
          exact absurd ⟨rfl, rfl⟩ hz
        · simp at h
          subst h
          exact he
    subst hxs
    have o0 := (blk_cell hI.out 0).trans rfl
    have r0 := (blk_cell hw 0).trans rfl
    have r1 := (blk_cell hw 1).trans rfl
    have z0 := (blk_cell hI.res 0).trans rfl
    have z1 := (blk_cell hI.res 1).trans rfl
    have zf0 := blk_free hI.res 0
    have zf1 := blk_free hI.res 1
    have HI := Lib.hid hI
    have HK := Lib.hid hK
    clear hI hK hS hz hw hpre
    gi_wp2
    gi_region
    all_goals gi_wp2
    rw [Exit.noGoto_ret]
    have h0 := HI.out.res
    have hb := HI.out.bel
    have hro : w.heap.size ≠ D := by have := HSZ.out; omega
    have hK' := (blk_far (W.setCell ⟨w.heap.size, 0, none⟩ (.int .i64 (v.da : Int))) w.heap.size 1 D (.int .i64 (v.dc : Int)) (Ne.symm hro)).trans ((blk_far W w.heap.size 0 D (.int .i64 (v.da : Int)) (Ne.symm hro)).trans HK.out)
    refine all_end (B := w.heap.size) (D := D) (v := .slice none 0 0) (d0 := .int .i64 (v.da : Int)) (d1 := .int .i64 (v.dc : Int)) ((blk_set (blk_set h0 0 _) 1 _).trans rfl) hK' rfl rfl rfl ⟨_, rfl, ?_, ?_⟩
    · exact World.ownsRow_nil _ _ _ _
    · exact (bel_drew (bel_set (bel_set hb (Nat.le_refl _)) (Nat.le_refl _))).trans (belowK_b (w := w) (Nat.le_refl _) _ D _ _ (by have := HSZ.out; omega) hK' rfl rfl)

/-- All, as a call. -/
theorem all_any (s : ByteArray) (hs : s.size ≤ 9223372036854775806) (w : World) (ht : Tab w) (T : List Tk) (e : Option (Nat × Nat)) (hL : Lx 0 0 s.data.toList T e) :
    Calls Tryd.prog 15 #[.string s] w (AllPost s T e w) := callsIn_wide.1 (all_in 5 (Nat.le_refl _) s hs w ht T e hL)
end Go.Proofs.YtlmggfbpdciioaaDoor
