/- What bounds a law's inputs comes to an end. -/
import Derived.Test.YtbhagjhhgmmcgaaTyQ
import Derived.Test.YtbhagjhhgmmcgaaTyU
import Derived.Test.YtbhagjhhgmmcgaaPRefx8
import Derived.Test.YtbhagjhhgmmcgaaPRefx9
namespace Go.Proofs.Ytbhagjhhgmmcgaa
open Go.RowKit PRef Go.Proofs.YtbhagjhhgmmcgaaW.PrintWords
set_option linter.unusedVariables false
set_option linter.unusedSimpArgs false

/-- It comes to an answer. -/
def Tot {α : Type} (g : Nat → Option α) : Prop := ∃ r, Ev g r
theorem Tot.now {α : Type} (r : α) : Tot (fun _ => some r) := ⟨r, Ev.now r⟩
theorem Tot.step {α : Type} {g f : Nat → Option α} (h : ∀ k, g (k + 1) = f k) (k : Tot f) : Tot g := ⟨k.choose, Ev.step h k.choose_spec⟩
theorem Tot.ite {α : Type} {c : Prop} [Decidable c] {f g : Nat → Option α} (h1 : c → Tot f) (h2 : ¬ c → Tot g) : Tot (fun k => if c then f k else g k) := by
  by_cases h : c
  · simp only [if_pos h]; exact h1 h
  · simp only [if_neg h]; exact h2 h
theorem Tot.pos {α : Type} {c : Prop} [Decidable c] {f g : Nat → Option α} (h : c) (h1 : Tot f) : Tot (fun k => if c then f k else g k) := Tot.ite (fun _ => h1) (fun hn => absurd h hn)
theorem Tot.bind {α β : Type} {g : Nat → Option α} {f : Nat → α → Option β} (h : Tot g) (k : ∀ a, Tot (fun n => f n a)) : Tot (fun n => (g n).bind (f n)) := by
  obtain ⟨a, ha⟩ := h
  obtain ⟨r, hr⟩ := k a
  exact ⟨r, Ev.bind ha hr⟩
theorem wrap_up {i n : Nat} (h : i < n) (hn : n ≤ 9223372036854775807) : wrap64 ((i : Int) + 1) = ((i + 1 : Nat) : Int) := by unfold wrap64; omega
theorem rd_at {α : Type} (l : List α) (z : α) (i : Nat) (h : i < l.length) : l.getD ((i : Int)).toNat z = l[i] := by rw [Int.toNat_natCast, List.getD_eq_getElem?_getD, List.getElem?_eq_getElem h]; rfl

theorem parts_tot {a : Ty} (ha : TyOk a) : ∀ n : Int, Tot (fun k => quoinlaw11_parts.f k a.f0 a.f1 a.f2 a.f3 a.f4 n) := by
  induction ha with
  | mk t hl hs ih =>
    obtain ⟨b, p, n, m, l⟩ := t
    dsimp only at hl hs ih ⊢
    have hL : ∀ (d i : Nat), i + d = l.length → ∀ x : Int, Tot (fun k => quoinlaw11_parts.l0 k x i b p n m l) := by
      intro d
      induction d with
      | zero => intro i hi x; exact Tot.step (fun k => by rw [quoinlaw11_parts.l0, if_neg (by omega)]) (Tot.now _)
      | succ d ih2 =>
        intro i hi x
        have h1 : i < l.length := by omega
        refine Tot.step (f := fun k => if x ≤ 60 then (quoinlaw11_parts.f k l[i].f0 l[i].f1 l[i].f2 l[i].f3 l[i].f4 x).bind (fun t => quoinlaw11_parts.l0 k t ((i + 1 : Nat) : Int) b p n m l) else some x) (fun k => by rw [quoinlaw11_parts.l0, if_pos (show (i : Int) < l.length by omega), if_pos (show (0 : Int) ≤ i by omega), show rd_T29 l (i : Int) = l[i] from rd_at l _ i h1, wrap_up h1 (by omega)]) (Tot.ite (fun _ => ?_) (fun _ => Tot.now _))
        exact Tot.bind (f := fun k t => quoinlaw11_parts.l0 k t ((i + 1 : Nat) : Int) b p n m l) (ih _ (List.getElem_mem h1) x) (fun y => ih2 (i + 1) (by omega) y)
    intro x
    exact Tot.step (f := fun k => quoinlaw11_parts.l0 k (wrap64 (x + 1)) ((0 : Nat) : Int) b p n m l) (fun k => by rw [quoinlaw11_parts.f]; rfl) (hL l.length 0 (by omega) _)
theorem parts_c {t : Ty} (ht : TyOk t) : ∃ r : Int, ∀ (A : Option Addr) (c : Nat) (w : World), Kd.C kTy w A t.f4.length t.f4 → t.f4.length ≤ c → Calls Try.prog 34 #[.agg #[.int .i64 t.f0, .string t.f1, .string t.f2, .int .i64 t.f3, .slice A t.f4.length c], .int .i64 0] w fun e w' => e = .returned (.int .i64 r) ∧ Below w.heap.size w w' := by
  obtain ⟨r, hr⟩ := parts_tot ht 0
  obtain ⟨k, hk⟩ := hr.rounds
  exact ⟨r, fun A c w hC hc => quoinlaw11_parts.calls k _ _ _ _ A c _ 0 r w hC hc hk⟩

theorem small_l4 (l : List Ty) (hok : ∀ t ∈ l, TyOk t) (hm : l.length ≤ 9223372036854775807) : ∀ (d i : Nat), i + d = l.length → Tot (fun k => quoinlaw11_small.l4 k l i) := by
  intro d
  induction d with
  | zero => intro i hi; exact Tot.step (fun k => by rw [quoinlaw11_small.l4, if_neg (by omega)]) (Tot.now _)
  | succ d ih2 =>
    intro i hi
    have h1 : i < l.length := by omega
    refine Tot.step (fun k => by rw [quoinlaw11_small.l4, if_pos (by omega), if_pos (show (0 : Int) ≤ i by omega), show rd_T29 l (i : Int) = l[i] from rd_at l _ i h1, wrap_up h1 (by omega)]) ?_
    exact Tot.bind (f := fun k t => if t > 60 then some false else quoinlaw11_small.l4 k l ((i + 1 : Nat) : Int)) (parts_tot (hok _ (List.getElem_mem h1)) 0) (fun y => Tot.ite (fun _ => Tot.now _) (fun _ => ih2 (i + 1) (by omega)))

section
variable (s : Scp) (l : List Ty)
theorem small_l3 (x : Dcl) (hx : DclOk x) (i j m : Nat) (hmm : m < x.f3.length) (hnext : Tot (fun k => quoinlaw11_small.l2 k l i j ((m + 1 : Nat) : Int) s.W s.I s.N s.B s.V x.f0 x.f1 x.f2 x.f3)) :
    ∀ (d q : Nat), q + d = (x.f3[m].f1).length → Tot (fun k => quoinlaw11_small.l3 k l i j m q s.W s.I s.N s.B s.V x.f0 x.f1 x.f2 x.f3) := by
  have hmo := hx.mp _ (List.getElem_mem hmm)
  have e1 : rd_T50 x.f3 (m : Int) = x.f3[m] := rd_at _ _ m hmm
  have hm2 : x.f3.length ≤ 9223372036854775807 := by have := hx.mn; omega
  intro d
  induction d with
  | zero =>
    intro q hq
    exact Tot.step (fun k => by rw [quoinlaw11_small.l3, if_pos (show (0 : Int) ≤ m by omega), if_pos (show (m : Int) < _ by omega), e1, if_neg (by omega), wrap_up hmm hm2]) hnext
  | succ d ih =>
    intro q hq
    have h1 : q < (x.f3[m].f1).length := by omega
    refine Tot.step (fun k => by rw [quoinlaw11_small.l3, if_pos (show (0 : Int) ≤ m by omega), if_pos (show (m : Int) < _ by omega), e1, if_pos (by omega), if_pos (show (0 : Int) ≤ q by omega), show rd_T29 x.f3[m].f1 (q : Int) = x.f3[m].f1[q] from rd_at _ _ q h1, wrap_up h1 (by have := hmo.1; omega)]) ?_
    exact Tot.bind (f := fun k t => if t > 60 then some false else quoinlaw11_small.l3 k l i j m ((q + 1 : Nat) : Int) s.W s.I s.N s.B s.V x.f0 x.f1 x.f2 x.f3) (parts_tot (hmo.2.1 _ (List.getElem_mem h1)) 0) (fun y => Tot.ite (fun _ => Tot.now _) (fun _ => ih (q + 1) (by omega)))
theorem small_l2 (x : Dcl) (hx : DclOk x) (i j : Nat) (hj : wrap64 ((j : Int) + 1) = ((j + 1 : Nat) : Int)) (hnext : Tot (fun k => quoinlaw11_small.l1 k l i ((j + 1 : Nat) : Int) s.W s.I s.N s.B s.V)) :
    ∀ (d m : Nat), m + d = x.f3.length → Tot (fun k => quoinlaw11_small.l2 k l i j m s.W s.I s.N s.B s.V x.f0 x.f1 x.f2 x.f3) := by
  intro d
  induction d with
  | zero =>
    intro m hm
    exact Tot.step (fun k => by rw [quoinlaw11_small.l2, if_neg (by omega), hj]) hnext
  | succ d ih =>
    intro m hm
    have hmm : m < x.f3.length := by omega
    have hmo := hx.mp _ (List.getElem_mem hmm)
    have e1 : rd_T50 x.f3 (m : Int) = x.f3[m] := rd_at _ _ m hmm
    have hj5 : ∀ b : Bool, Tot (fun k => quoinlaw11_small.j5 k l i j m b s.W s.I s.N s.B s.V x.f0 x.f1 x.f2 x.f3) := fun b =>
      Tot.step (f := fun k => if b = true then some false else quoinlaw11_small.l3 k l i j m ((0 : Nat) : Int) s.W s.I s.N s.B s.V x.f0 x.f1 x.f2 x.f3) (fun k => by rw [quoinlaw11_small.j5]; rfl) (Tot.ite (fun _ => Tot.now _) (fun _ => small_l3 s l x hx i j m hmm (ih (m + 1) (by omega)) _ 0 (Nat.zero_add _)))
    refine Tot.step (fun k => by rw [quoinlaw11_small.l2, if_pos (by omega), if_pos (show (0 : Int) ≤ m by omega), e1]) (Tot.ite (fun _ => hj5 true) (fun _ => ?_))
    exact Tot.bind (f := fun k t => quoinlaw11_small.j5 k l i j m (decide (t > 60)) s.W s.I s.N s.B s.V x.f0 x.f1 x.f2 x.f3) (parts_tot hmo.2.2 0) (fun y => hj5 _)
theorem small_l1 (hW : WOk s.W) (i : Nat) (hi : i < s.W.length) (hm : (s.W[i].f1).length ≤ 9223372036854775807) (hw : s.W.length ≤ 9223372036854775807) (hnext : Tot (fun k => quoinlaw11_small.l0 k l ((i + 1 : Nat) : Int) s.W s.I s.N s.B s.V)) :
    ∀ (d j : Nat), j + d = (s.W[i].f1).length → Tot (fun k => quoinlaw11_small.l1 k l i j s.W s.I s.N s.B s.V) := by
  have e1 : rd_T74 s.W (i : Int) = s.W[i] := rd_at _ _ i hi
  intro d
  induction d with
  | zero =>
    intro j hj
    exact Tot.step (fun k => by rw [quoinlaw11_small.l1, if_pos (show (0 : Int) ≤ i by omega), if_pos (show (i : Int) < _ by omega), e1, if_neg (by omega), wrap_up hi hw]) hnext
  | succ d ih =>
    intro j hj
    have hjj : j < (s.W[i].f1).length := by omega
    have e2 : rd_T35 s.W[i].f1 (j : Int) = s.W[i].f1[j] := rd_at _ _ j hjj
    have hx := hW _ (List.getElem_mem hi) _ (List.getElem_mem hjj)
    have hj3 : ∀ b : Bool, Tot (fun k => quoinlaw11_small.j3 k l i j b s.W s.I s.N s.B s.V (s.W[i].f1[j]).f0 (s.W[i].f1[j]).f1 (s.W[i].f1[j]).f2 (s.W[i].f1[j]).f3) := fun b =>
      Tot.step (f := fun k => if b = true then some false else quoinlaw11_small.l2 k l i j ((0 : Nat) : Int) s.W s.I s.N s.B s.V (s.W[i].f1[j]).f0 (s.W[i].f1[j]).f1 (s.W[i].f1[j]).f2 (s.W[i].f1[j]).f3) (fun k => by rw [quoinlaw11_small.j3]; rfl) (Tot.ite (fun _ => Tot.now _) (fun _ => small_l2 s l _ hx i j (wrap_up hjj hm) (ih (j + 1) (by omega)) _ 0 (Nat.zero_add _)))
    exact Tot.step (fun k => by rw [quoinlaw11_small.l1, if_pos (show (0 : Int) ≤ i by omega), if_pos (show (i : Int) < _ by omega), e1, if_pos (by omega), if_pos (show (0 : Int) ≤ j by omega), e2]) (Tot.ite (fun _ => hj3 true) (fun _ => hj3 _))
theorem small_l0 (hW : WOk s.W) (hl : ∀ t ∈ l, TyOk t) (hlm : l.length ≤ 9223372036854775807) (hm : ∀ p ∈ s.W, p.f1.length ≤ 9223372036854775807) (hw : s.W.length ≤ 9223372036854775807) :
    ∀ (d i : Nat), i + d = s.W.length → Tot (fun k => quoinlaw11_small.l0 k l i s.W s.I s.N s.B s.V) := by
  intro d
  induction d with
  | zero =>
    intro i hi
    exact Tot.step (f := fun k => quoinlaw11_small.l4 k l ((0 : Nat) : Int)) (fun k => by rw [quoinlaw11_small.l0, if_neg (by omega)]; rfl) (small_l4 l hl hlm _ 0 (Nat.zero_add _))
  | succ d ih =>
    intro i hi
    have hii : i < s.W.length := by omega
    have e1 : rd_T74 s.W (i : Int) = s.W[i] := rd_at _ _ i hii
    exact Tot.step (f := fun k => if ((s.W[i].f1).length : Int) > 30 then some false else quoinlaw11_small.l1 k l i ((0 : Nat) : Int) s.W s.I s.N s.B s.V) (fun k => by rw [quoinlaw11_small.l0, if_pos (by omega), if_pos (show (0 : Int) ≤ i by omega), e1]; rfl) (Tot.ite (fun _ => Tot.now _) (fun _ => small_l1 s l hW i hii (hm _ (List.getElem_mem hii)) hw (ih (i + 1) (by omega)) _ 0 (Nat.zero_add _)))
theorem small_tot (hW : WOk s.W) (hl : ∀ t ∈ l, TyOk t) (hlm : l.length ≤ 9223372036854775807) (hm : ∀ p ∈ s.W, p.f1.length ≤ 9223372036854775807) (hw : s.W.length ≤ 9223372036854775807) : Tot (fun k => quoinlaw11_small.f k s.W s.I s.N s.B s.V l) := by
  have hj0 : ∀ b : Bool, Tot (fun k => quoinlaw11_small.j0 k l b s.W s.I s.N s.B s.V) := fun b =>
    Tot.step (f := fun k => if b = true then some false else quoinlaw11_small.l0 k l ((0 : Nat) : Int) s.W s.I s.N s.B s.V) (fun k => by rw [quoinlaw11_small.j0]; rfl) (Tot.ite (fun _ => Tot.now _) (fun _ => small_l0 s l hW hl hlm hm hw _ 0 (Nat.zero_add _)))
  unfold quoinlaw11_small.f
  exact Tot.ite (fun _ => hj0 true) (fun _ => hj0 _)
end
theorem C_types {w : World} {A : Option Addr} {W : List Ifc} (h : Kd.C kIfc w A W.length W) : ∀ p ∈ W, p.f1.length ≤ 9223372036854775807 := by
  intro p hp
  obtain ⟨i, hi, rfl⟩ := List.mem_iff_getElem.1 hp
  obtain ⟨_, _, hc⟩ := h.2.2 (by omega)
  obtain ⟨cs, _, hK, _⟩ := hc i _ (List.getElem?_eq_getElem hi)
  obtain ⟨A1, c1, A2, c2, _, _, hC, _⟩ := k74_open hK
  exact hC.2.1
theorem small_c {s : Scp} {a : ScA} {w0 : World} (hs : ScpC a s w0) (hW : WOk s.W) (l : List Ty) (hl : ∀ t ∈ l, TyOk t) (hlm : l.length ≤ 9223372036854775807) :
    ∃ r : Bool, ∀ (A : Option Addr) (c : Nat) (w : World), Below w0.heap.size w0 w → Kd.C kTy w A l.length l → l.length ≤ c → Calls Try.prog 15 #[.agg #[.slice a.AW s.W.length a.cW, .slice a.AI a.nI a.cI, .slice a.AN a.nN a.cN, .slice a.AB s.B.length a.cB, .slice a.AV a.nV a.cV], .slice A l.length c] w fun e w' => e = .returned (.bool r) ∧ Below w.heap.size w w' := by
  obtain ⟨r, hr⟩ := small_tot s l hW hl hlm (C_types hs.c.w_) hs.c.w_.2.1
  obtain ⟨k, hk⟩ := hr.rounds
  refine ⟨r, fun A c w hb hC hc => ?_⟩
  have h := hs.later hb
  rw [hs.nI, hs.nN, hs.nV]
  exact quoinlaw11_small.calls k _ _ _ _ _ _ _ _ _ _ _ _ _ _ _ A c l r w h.c.w_ h.c.wc h.iC h.ic h.nC h.nc h.c.b_ h.c.bc h.vC h.vc hC hc hk
end Go.Proofs.Ytbhagjhhgmmcgaa
