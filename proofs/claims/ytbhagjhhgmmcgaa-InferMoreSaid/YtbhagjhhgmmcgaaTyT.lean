/- Plain laws of what is the same and what is alike; the document's Same and Alike are these. Arguments that came in, opened by their kinds: numbers, texts, slices, structs, trees. Types, declared types and scopes that came in, opened. What bounds a law's inputs comes to an end. -/
import Derived.Test.YtbhagjhhgmmcgaaTyI
import Derived.Test.YtbhagjhhgmmcgaaPRefx0
import Derived.Test.YtbhagjhhgmmcgaaBase
import Derived.Carry
import Derived.ProofKit
import Derived.OpenShut
import Derived.ChangeOld
import Derived.Deep.Slices
import Derived.Lib.SmallJoins
import Derived.SizedLaws
import Derived.Test.YtbhagjhhgmmcgaaTyL
namespace Go.Proofs.Ytbhagjhhgmmcgaa
open Go.RowKit PRef Go.Proofs.YtbhagjhhgmmcgaaW.PrintWords
set_option linter.unusedVariables false
set_option linter.unusedSimpArgs false

theorem allL_comm {q : Ty → Ty → Bool} : ∀ (l m : List Ty), (∀ x ∈ l, ∀ y, q x y = q y x) → allL q l m = allL q m l
  | [], [], _ => rfl
  | [], _ :: _, _ => rfl
  | _ :: _, [], _ => rfl
  | a :: r, b :: s, h => by rw [allL, allL, h a List.mem_cons_self b, allL_comm r s (fun x hx => h x (List.mem_cons_of_mem _ hx))]
theorem allL_self {q : Ty → Ty → Bool} : ∀ (l : List Ty), (∀ x ∈ l, q x x = true) → allL q l l = true
  | [], _ => rfl
  | a :: r, h => by rw [allL, h a List.mem_cons_self, allL_self r (fun x hx => h x (List.mem_cons_of_mem _ hx))]; rfl
theorem allL_imp {q q' : Ty → Ty → Bool} : ∀ (l m : List Ty), (∀ x ∈ l, ∀ y, q x y = true → q' x y = true) → allL q l m = true → allL q' l m = true
  | [], [], _, _ => rfl
  | [], _ :: _, _, h => by simp [allL] at h
  | _ :: _, [], _, h => by simp [allL] at h
  | a :: r, b :: s, h, h1 => by
    rw [allL, Bool.and_eq_true] at h1
    rw [allL, h a List.mem_cons_self b h1.1, allL_imp r s (fun x hx => h x (List.mem_cons_of_mem _ hx)) h1.2]; rfl

theorem sameT_comm : ∀ (a b : Ty), sameT a b = sameT b a := by
  intro a
  induction tyAll a with
  | mk t hs ih =>
    intro b
    obtain ⟨k, p, n, m, l⟩ := t
    obtain ⟨k', p', n', m', l'⟩ := b
    have hl : sameL l l' = sameL l' l := by rw [sameL_all, sameL_all]; exact allL_comm l l' ih
    rw [sameT, sameT, hl]
    by_cases hk : k = k'
    · subst hk
      simp only [eq_comm (a := p) (b := p'), eq_comm (a := n) (b := n'), eq_comm (a := m) (b := m')]
    · rw [if_pos hk, if_pos (fun e => hk e.symm)]
theorem sameT_self : ∀ (a : Ty), sameT a a = true := by
  intro a
  induction tyAll a with
  | mk t hs ih =>
    obtain ⟨k, p, n, m, l⟩ := t
    have hl : sameL l l = true := by rw [sameL_all]; exact allL_self l ih
    rw [sameT, hl]
    simp
theorem alikeT_comm : ∀ (a b : Ty), alikeT a b = alikeT b a := by
  intro a
  induction tyAll a with
  | mk t hs ih =>
    intro b
    obtain ⟨k, p, n, m, l⟩ := t
    obtain ⟨k', p', n', m', l'⟩ := b
    have hl : alikeL l l' = alikeL l' l := by rw [alikeL_all, alikeL_all]; exact allL_comm l l' ih
    rw [alikeT, alikeT, hl, sameT_comm ⟨k, p, n, m, l⟩]
    by_cases h0 : k = 0 <;> by_cases h1 : k' = 0 <;> simp [h0, h1, and_comm]
theorem alikeT_self : ∀ (a : Ty), alikeT a a = true := by
  intro a
  induction tyAll a with
  | mk t hs ih =>
    obtain ⟨k, p, n, m, l⟩ := t
    have hl : alikeL l l = true := by rw [alikeL_all]; exact allL_self l ih
    rw [alikeT, hl, sameT_self]
    simp
theorem alikeT_same : ∀ (a b : Ty), sameT a b = true → alikeT a b = true := by
  intro a
  induction tyAll a with
  | mk t hs ih =>
    intro b h
    obtain ⟨k, p, n, m, l⟩ := t
    obtain ⟨k', p', n', m', l'⟩ := b
    rw [alikeT, h]
    by_cases h5 : k = 5 ∧ k' = 5
    · obtain ⟨rfl, rfl⟩ := h5
      have h2 : sameL l l' = true := by simpa [sameT] using h
      rw [sameL_all] at h2
      have h3 : alikeL l l' = true := by rw [alikeL_all]; exact allL_imp l l' ih h2
      simp [h3]
    · simp [h5]
end Go.Proofs.Ytbhagjhhgmmcgaa
namespace Go.Proofs.Ytbhagjhhgmmcgaa
open Go.RowKit PRef Go.Proofs.YtbhagjhhgmmcgaaW.PrintWords Go.WideShapes Go.Deep Go.ChangeShapes Go.Joins
set_option linter.unusedVariables false
set_option linter.unusedSimpArgs false

/-- What lies in cells of a type, at so much fuel, is a datum of the kind. -/
def Opens (P : Program) {α : Type} (d : Kd α) (ok : α → Prop) (t : TypeId) (n : Nat) : Prop :=
  ∀ (H : Type) (ec : TypeId × Value → H) (w : World) (base : Nat) (held : Bool) (cs : List Value) (x : DataW H × List MemPlace), DataW.trod ec P w base (fun _ => true) held n t cs = some x → (∀ k ∈ x.1.weights P t, k ≤ reachBytes) → ∃ a : α, d.K w a cs ∧ ok a

theorem Opens.mono {P : Program} {α : Type} {d : Kd α} {ok ok' : α → Prop} {t : TypeId} {n : Nat} (h : Opens P d ok t n) (hi : ∀ a, ok a → ok' a) : Opens P d ok' t n := fun H ec w base held cs x hx hw => by
  obtain ⟨a, h1, h2⟩ := h H ec w base held cs x hx hw
  exact ⟨a, h1, hi a h2⟩

theorem opens_int {P : Program} {t : TypeId} {k : IntKind} (n : Nat) (hu : P.underlying t = some (.int k)) : Opens P (Kd.int k) (fun x => (Lit.int k x).wf = true) t n := fun H ec w base held cs x hx _ => by
  obtain ⟨s, rfl, _, h⟩ := DataW.trod_int hu hx
  exact ⟨s, rfl, h⟩
theorem opens_bool {P : Program} {t : TypeId} (n : Nat) (hu : P.underlying t = some .bool) : Opens P Kd.bool (fun _ => True) t n := fun H ec w base held cs x hx _ => by
  obtain ⟨s, rfl, _⟩ := DataW.trod_bool hu hx
  exact ⟨s, rfl, trivial⟩
theorem opens_string {P : Program} {t : TypeId} (n : Nat) (hu : P.underlying t = some .string) : Opens P Kd.string (fun s => s.size ≤ 140737488351232) t n := fun H ec w base held cs x hx hw => by
  obtain ⟨s, rfl, rfl, _⟩ := DataW.trod_string hu hx
  refine ⟨s, rfl, ?_⟩
  have := hw s.data.toList.length (by simp [DataW.weights])
  rw [show reachBytes = 140737488351232 by decide] at this
  simpa using this

theorem weightsAll_mem' {H : Type} {P : Program} {e : TypeId} : ∀ {l : List (DataW H)} {d : DataW H}, d ∈ l → ∀ n ∈ d.weights P e, n ∈ DataW.weightsAll P e l
  | [], _, h, _, _ => by cases h
  | a :: r, d, h, n, hn => by
    rw [DataW.weightsAll, List.mem_append]
    rcases List.mem_cons.1 h with rfl | h
    · exact .inl hn
    · exact .inr (weightsAll_mem' h n hn)

theorem opens_slice {P : Program} {α : Type} {d : Kd α} {ok : α → Prop} {t e : TypeId} {n : Nat} (hu : P.underlying t = some (.slice e)) (hsz : P.cellsOf e = d.sz) (h : ∀ m, m < n → Opens P d ok e m) :
    Opens P (Kd.slice e d) (fun l => (∀ x ∈ l, ok x) ∧ l.length * P.bytesOf e ≤ 140737488351232) t n := fun H ec w base held cs x hx hw => by
  have hr : reachBytes = 140737488351232 := by decide
  rcases DataW.trod_slice hu hx with ⟨rfl, rfl⟩ | ⟨a, len, cap, elems, rest, m, rfl, rfl, rfl, hb, hle, hm, hlen, hel, hsp, _⟩
  · exact ⟨[], ⟨none, 0, rfl, Nat.le_refl _, ⟨rfl, by simp, fun h => by simp at h⟩⟩, by simp, by simp⟩
  · have hall : ∀ i : Fin len, ∃ (y : α) (c : List Value), w.cells? base (a.add (i.1 * P.cellsOf e)) (P.cellsOf e) = some c ∧ d.K w y c ∧ ok y := by
      intro i
      have h1 := hel i.1 i.2
      have hi : i.1 < elems.length := by rw [hlen]; exact i.2
      rw [List.getElem?_eq_getElem hi] at h1
      obtain ⟨c, h2, h3⟩ := Option.bind_eq_some_iff.1 h1
      obtain ⟨y, h4, h5⟩ := h m (Nat.lt_succ_self m) H ec w base held c _ h3 (fun k hk => hw k (by
        simp only [DataW.weights, hu]
        refine List.mem_cons_of_mem _ (List.mem_append_left _ (weightsAll_mem' ?_ k hk))
        exact List.mem_map_of_mem (List.getElem_mem hi)))
      exact ⟨y, c, h2, h4, h5⟩
    obtain ⟨f, hf⟩ := Classical.axiomOfChoice hall
    have hwt := hw ((elems.length + rest.length) * P.bytesOf e) (by simp only [DataW.weights, hu, List.length_map]; exact List.mem_cons_self)
    have hle2 : len * P.bytesOf e ≤ 140737488351232 := by
      rw [hr] at hwt
      exact Nat.le_trans (Nat.mul_le_mul_right _ (by omega)) hwt
    refine ⟨List.ofFn f, ⟨some a, cap, by rw [List.length_ofFn], by rw [List.length_ofFn]; exact hle, by rw [List.length_ofFn], by rw [List.length_ofFn]; simp only [maxLen] at hm; omega, fun _ => ⟨a, rfl, fun j p hp => ?_⟩⟩, ?_, by rw [List.length_ofFn]; exact hle2⟩
    · rw [List.getElem?_ofFn] at hp
      split at hp
      · rename_i hj
        injection hp with hp
        obtain ⟨c, h1, h2, _⟩ := hf ⟨j, hj⟩
        rw [hp] at h2
        have hl := d.K_len h2
        obtain ⟨_, _, hc⟩ := World.cells?_some h1
        refine ⟨c, hl, h2, fun i u hu' => ?_⟩
        have hi : i < d.sz := by rw [← hl]; exact (List.getElem?_eq_some_iff.1 hu').1
        have h3 := hc i (by rw [hsz]; exact hi)
        rw [Addr.add_add, hsz] at h3
        rw [h3]
        exact hu'
      · cases hp
    · intro x hx
      obtain ⟨i, rfl⟩ : ∃ i, f i = x := by simpa [List.mem_ofFn] using hx
      obtain ⟨_, _, _, h3⟩ := hf i
      exact h3

/-- Where the so-manieth of some fields begins. -/
def offs (P : Program) (ts : List TypeId) (j : Nat) : Nat := ((ts.take j).map P.cellsOf).sum
def OpensF (P : Program) {α : Type} (d : Kd α) (ok : α → Prop) (ts : List TypeId) (n : Nat) : Prop :=
  ∀ (H : Type) (ec : TypeId × Value → H) (w : World) (base : Nat) (held : Bool) (cs : List Value) (xs : List (DataW H × List MemPlace)), cs.length = d.sz → xs.length = ts.length →
    (∀ (j : Nat) t, ts[j]? = some t → DataW.trod ec P w base (fun _ => true) held n t ((cs.drop (offs P ts j)).take (P.cellsOf t)) = xs[j]?) → (∀ k ∈ DataW.weightsEach P ts (xs.map (·.1)), k ≤ reachBytes) → ∃ a : α, d.K w a cs ∧ ok a
theorem fields_one {P : Program} {α : Type} {d : Kd α} {ok : α → Prop} {t : TypeId} {n : Nat} (hsz : P.cellsOf t = d.sz) (h : Opens P d ok t n) : OpensF P d ok [t] n := fun H ec w base held cs xs hl hx hf hw => by
  match xs, hx with
  | [x], _ =>
    have h0 := hf 0 t rfl
    simp only [offs, List.take_zero, List.map_nil, List.sum_nil, List.drop_zero, List.getElem?_cons_zero] at h0
    rw [List.take_of_length_le (by omega)] at h0
    exact h H ec w base held cs x h0 (fun k hk => hw k (by simpa [DataW.weightsEach] using hk))
theorem fields_cons {P : Program} {α β : Type} {d : Kd α} {d' : Kd β} {ok : α → Prop} {ok' : β → Prop} {t : TypeId} {ts : List TypeId} {n : Nat} (hsz : P.cellsOf t = d.sz) (h : Opens P d ok t n) (h' : OpensF P d' ok' ts n) : OpensF P (Kd.pair d d') (fun p => ok p.1 ∧ ok' p.2) (t :: ts) n := fun H ec w base held cs xs hl hx hf hw => by
  match xs, hx with
  | x :: r, hx =>
    have hl' : cs.length = d.sz + d'.sz := hl
    have h0 := hf 0 t rfl
    simp only [offs, List.take_zero, List.map_nil, List.sum_nil, List.drop_zero, List.getElem?_cons_zero] at h0
    obtain ⟨a, h1, h2⟩ := h H ec w base held _ x h0 (fun k hk => hw k (by simp [DataW.weightsEach, hk]))
    obtain ⟨b, h3, h4⟩ := h' H ec w base held (cs.drop d.sz) r (by rw [List.length_drop]; omega) (by simpa using hx) (fun j u hu => by
      have := hf (j + 1) u (by simpa using hu)
      simp only [offs, List.take_succ_cons, List.map_cons, List.sum_cons, List.getElem?_cons_succ] at this
      rw [List.drop_drop, ← hsz]
      exact this) (fun k hk => hw k (by simp [DataW.weightsEach, hk]))
    rw [hsz] at h1
    exact ⟨(a, b), ⟨cs.take d.sz, cs.drop d.sz, (List.take_append_drop _ _).symm, h1, h3⟩, h2, h4⟩
theorem opens_struct0 {P : Program} {α : Type} {d : Kd α} {ok : α → Prop} {t : TypeId} {ts : List TypeId} {fs : Array Field} {n : Nat} (hu : P.underlying t = some (.struct fs)) (hts : fs.toList.map (·.type) = ts) (hoff : fs.toList.map (·.offset) = (List.range ts.length).map (offs P ts)) (hsz : P.cellsOf t = d.sz)
    (h : ∀ m, m < n → OpensF P d ok ts m) : Opens P d ok t n := fun H ec w base held cs x hx hw => by
  obtain ⟨xs, m, rfl, rfl, hl, hlen, hf⟩ := DataW.trod_struct hu hx
  have hn : ts.length = fs.size := by rw [← hts, List.length_map, Array.length_toList]
  refine h m (Nat.lt_succ_self m) H ec w base held cs xs (hl.trans hsz) (hlen.trans hn.symm) (fun j t' hj => ?_) (fun k hk => hw k ?_)
  · rw [← hts, List.getElem?_map] at hj
    obtain ⟨f, h1, rfl⟩ := Option.map_eq_some_iff.1 hj
    have h2 := hf j f (by rw [← Array.getElem?_toList]; exact h1)
    have h3 : (fs.toList.map (·.offset))[j]? = some f.offset := by rw [List.getElem?_map, h1]; rfl
    have hj' : j < ts.length := by rw [hn, ← Array.length_toList]; exact (List.getElem?_eq_some_iff.1 h1).1
    rw [hoff, List.getElem?_map, List.getElem?_range hj'] at h3
    rw [Option.some.inj h3]
    exact h2
  · simp only [DataW.weights, hu]
    rw [hts]
    exact hk
theorem opens_struct {P : Program} {α β : Type} {d : Kd α} {ok : α → Prop} {t : TypeId} {ts : List TypeId} {fs : Array Field} {n : Nat} (f : β → α) (g : α → β) (hfg : ∀ a, f (g a) = a) (hu : P.underlying t = some (.struct fs)) (hts : fs.toList.map (·.type) = ts) (hoff : fs.toList.map (·.offset) = (List.range ts.length).map (offs P ts)) (hsz : P.cellsOf t = d.sz)
    (h : ∀ m, m < n → OpensF P d ok ts m) : Opens P (Kd.iso d f) (fun b => ok (f b)) t n := fun H ec w base held cs x hx hw => by
  obtain ⟨a, h1, h2⟩ := opens_struct0 hu hts hoff hsz h H ec w base held cs x hx hw
  exact ⟨g a, by show d.K w (f (g a)) cs; rw [hfg]; exact h1, by show ok (f (g a)); rw [hfg]; exact h2⟩

/-- An argument that is a struct. -/
theorem open_struct_arg {P : Program} {α : Type} {d : Kd α} {ok : α → Prop} {t : TypeId} {fs : Array Field} (hu : P.underlying t = some (.struct fs)) (h : ∀ n, Opens P d ok t n) {H : Type} {ec : TypeId × Value → H} {w : World} {base : Nat} {held : Bool} {r : Reach} {b0 : Nat} {v : Value} {D : DataW H} {p : List MemPlace}
    (hw : ∀ n ∈ D.weights P t, n ≤ reachBytes) (hv : Value.okWide P w r b0 t v) (hd : DataW.Trod ec P w base (fun _ => true) held t v D p) : ∃ (a : α) (cs : Array Value), v = .agg cs ∧ d.K w a cs.toList ∧ ok a := by
  obtain ⟨cs, rfl, _⟩ := okWide_struct hu hv
  obtain ⟨n, hn⟩ := hd
  obtain ⟨a, h1, h2⟩ := h n H ec w base held _ _ hn hw
  exact ⟨a, cs, rfl, h1, h2⟩
/-- An argument that is a slice. -/
theorem open_slice_arg {P : Program} {α : Type} {d : Kd α} {ok : α → Prop} {t e : TypeId} (hu : P.underlying t = some (.slice e)) (hsz : P.cellsOf e = d.sz) (h : ∀ n, Opens P d ok e n) {H : Type} {ec : TypeId × Value → H} {w : World} {base : Nat} {held : Bool} {r : Reach} {b0 : Nat} {v : Value} {D : DataW H} {p : List MemPlace}
    (hw : ∀ n ∈ D.weights P t, n ≤ reachBytes) (hv : Value.okWide P w r b0 t v) (hd : DataW.Trod ec P w base (fun _ => true) held t v D p) :
    ∃ (A : Option Addr) (l : List α) (c : Nat), v = .slice A l.length c ∧ l.length ≤ c ∧ l.length * P.bytesOf e ≤ 140737488351232 ∧ (∀ x ∈ l, ok x) ∧ Kd.C d w A l.length l := by
  obtain ⟨A, m, c, rfl⟩ := okWide_slice hu hv
  obtain ⟨n, hn⟩ := hd
  obtain ⟨l, ⟨A', c', h1, h2, h3⟩, h4, h5⟩ := opens_slice hu hsz (n := n) (fun m _ => h m) H ec w base held _ _ hn hw
  have h1' : [Value.slice A m c] = [Value.slice A' l.length c'] := h1
  injection h1' with h1' _
  injection h1' with e1 e2 e3
  subst e1 e2 e3
  exact ⟨A, l, c, rfl, h2, h5, h4, h3⟩
end Go.Proofs.Ytbhagjhhgmmcgaa
namespace Go.Proofs.Ytbhagjhhgmmcgaa
open Go.RowKit PRef Go.Proofs.YtbhagjhhgmmcgaaW.PrintWords Go.WideShapes Go.Deep Go.ChangeShapes Go.Joins
set_option linter.unusedVariables false
set_option linter.unusedSimpArgs false

theorem opens_ty : ∀ n : Nat, Opens Try.prog kTy TyOk 29 n := by
  intro n
  induction n using Nat.strongRecOn with
  | ind n ih =>
    have hF : ∀ m, m < n → OpensF Try.prog (Kd.pair (Kd.int .i64) (Kd.pair Kd.string (Kd.pair Kd.string (Kd.pair (Kd.int .i64) (Kd.slice 29 kTy))))) (fun p => (Lit.int .i64 p.1).wf = true ∧ p.2.1.size ≤ 140737488351232 ∧ p.2.2.1.size ≤ 140737488351232 ∧ (Lit.int .i64 p.2.2.2.1).wf = true ∧ ((∀ x ∈ p.2.2.2.2, TyOk x) ∧ p.2.2.2.2.length * Try.prog.bytesOf 29 ≤ 140737488351232)) [3, 9, 9, 3, 24] m := fun m hm =>
      fields_cons (by kernel_rfl) (opens_int m Try.underlying3) (fields_cons (by kernel_rfl) (opens_string m Try.underlying9) (fields_cons (by kernel_rfl) (opens_string m Try.underlying9) (fields_cons (by kernel_rfl) (opens_int m Try.underlying3) (fields_one (by kernel_rfl) (opens_slice Try.underlying24 (by kernel_rfl) (fun q hq => ih q (Nat.lt_trans hq hm)))))))
    intro H ec w base held cs x hx hw
    obtain ⟨⟨a0, a1, a2, a3, a4⟩, ⟨_, _, rfl, rfl, ⟨_, _, rfl, rfl, ⟨_, _, rfl, rfl, ⟨_, _, rfl, rfl, ⟨A4, c4, rfl, l4, g4⟩⟩⟩⟩⟩, _, _, _, _, h5, h6⟩ := opens_struct0 (fs := _) (n := n) Try.underlying29 rfl (by kernel_rfl) (by kernel_rfl) hF H ec w base held cs x hx hw
    rw [show Try.prog.bytesOf 29 = 72 by kernel_rfl] at h6
    exact ⟨⟨a0, a1, a2, a3, a4⟩, k29_mk w ⟨a0, a1, a2, a3, a4⟩ l4 g4, .mk _ (by dsimp only at h6 ⊢; omega) h5⟩

theorem opens_fld (n : Nat) : Opens Try.prog kFld (fun f => TyOk f.f1) 83 n :=
  (opens_struct (β := Fld) (fun x : Fld => (x.f0, x.f1)) (fun p => ⟨p.1, p.2⟩) (fun _ => rfl) Try.underlying83 rfl (by kernel_rfl) (by kernel_rfl)
    (fun m _ => fields_cons (by kernel_rfl) (opens_string m Try.underlying9) (fields_one (by kernel_rfl) (opens_ty m)))).mono fun f h => h.2
def MthOk (m : Mth) : Prop := m.f1.length * 72 ≤ 140737488355328 ∧ (∀ p ∈ m.f1, TyOk p) ∧ TyOk m.f2
theorem opens_mth (n : Nat) : Opens Try.prog kMth MthOk 50 n :=
  (opens_struct (β := Mth) (fun x : Mth => (x.f0, x.f1, x.f2)) (fun p => ⟨p.1, p.2.1, p.2.2⟩) (fun _ => rfl) Try.underlying50 rfl (by kernel_rfl) (by kernel_rfl)
    (fun m _ => fields_cons (by kernel_rfl) (opens_string m Try.underlying9) (fields_cons (by kernel_rfl) (opens_slice Try.underlying24 (by kernel_rfl) (fun q _ => opens_ty q)) (fields_one (by kernel_rfl) (opens_ty m))))).mono fun f h => by
      obtain ⟨_, ⟨h1, h2⟩, h3⟩ := h
      rw [show Try.prog.bytesOf 29 = 72 by kernel_rfl] at h2
      exact ⟨by dsimp only at h2 ⊢; omega, h1, h3⟩
theorem opens_dcl (n : Nat) : Opens Try.prog kDcl DclOk 35 n :=
  (opens_struct (β := Dcl) (fun x : Dcl => (x.f0, x.f1, x.f2, x.f3)) (fun p => ⟨p.1, p.2.1, p.2.2.1, p.2.2.2⟩) (fun _ => rfl) Try.underlying35 rfl (by kernel_rfl) (by kernel_rfl)
    (fun m _ => fields_cons (by kernel_rfl) (opens_string m Try.underlying9) (fields_cons (by kernel_rfl) (opens_bool m Try.underlying4) (fields_cons (by kernel_rfl) (opens_slice Try.underlying32 (by kernel_rfl) (fun q _ => opens_fld q)) (fields_one (by kernel_rfl) (opens_slice Try.underlying33 (by kernel_rfl) (fun q _ => opens_mth q))))))).mono fun f h => by
      obtain ⟨_, _, ⟨h1, h2⟩, h3, h4⟩ := h
      rw [show Try.prog.bytesOf 83 = 88 by kernel_rfl] at h2
      rw [show Try.prog.bytesOf 50 = 112 by kernel_rfl] at h4
      exact ⟨by dsimp only at h2 ⊢; omega, by dsimp only at h4 ⊢; omega, h1, h3⟩
def FunOk (m : Fun) : Prop := m.f1.length * 72 ≤ 140737488355328 ∧ (∀ p ∈ m.f1, TyOk p) ∧ m.f2.length * 72 ≤ 140737488355328 ∧ (∀ p ∈ m.f2, TyOk p) ∧ TyOk m.f3
theorem opens_fun (n : Nat) : Opens Try.prog kFun FunOk 58 n :=
  (opens_struct (β := Fun) (fun x : Fun => (x.f0, x.f1, x.f2, x.f3)) (fun p => ⟨p.1, p.2.1, p.2.2.1, p.2.2.2⟩) (fun _ => rfl) Try.underlying58 rfl (by kernel_rfl) (by kernel_rfl)
    (fun m _ => fields_cons (by kernel_rfl) (opens_string m Try.underlying9) (fields_cons (by kernel_rfl) (opens_slice Try.underlying24 (by kernel_rfl) (fun q _ => opens_ty q)) (fields_cons (by kernel_rfl) (opens_slice Try.underlying24 (by kernel_rfl) (fun q _ => opens_ty q)) (fields_one (by kernel_rfl) (opens_ty m)))))).mono fun f h => by
      obtain ⟨_, ⟨h1, h2⟩, ⟨h3, h4⟩, h5⟩ := h
      rw [show Try.prog.bytesOf 29 = 72 by kernel_rfl] at h2 h4
      exact ⟨by dsimp only at h2 ⊢; omega, h1, by dsimp only at h4 ⊢; omega, h3, h5⟩
theorem opens_ifc (n : Nat) : Opens Try.prog kIfc (fun p => ∀ d ∈ p.f1, DclOk d) 74 n :=
  (opens_struct (β := Ifc) (fun x : Ifc => (x.f0, x.f1, x.f2)) (fun p => ⟨p.1, p.2.1, p.2.2⟩) (fun _ => rfl) Try.underlying74 rfl (by kernel_rfl) (by kernel_rfl)
    (fun m _ => fields_cons (by kernel_rfl) (opens_string m Try.underlying9) (fields_cons (by kernel_rfl) (opens_slice Try.underlying71 (by kernel_rfl) (fun q _ => opens_dcl q)) (fields_one (by kernel_rfl) (opens_slice Try.underlying72 (by kernel_rfl) (fun q _ => opens_fun q)))))).mono fun f h => h.2.1.1
abbrev Vrb := S127
abbrev kVrb := k127
theorem opens_vrb (n : Nat) : Opens Try.prog kVrb (fun f => TyOk f.f1) 127 n :=
  (opens_struct (β := Vrb) (fun x : Vrb => (x.f0, x.f1, x.f2)) (fun p => ⟨p.1, p.2.1, p.2.2⟩) (fun _ => rfl) Try.underlying127 rfl (by kernel_rfl) (by kernel_rfl)
    (fun m _ => fields_cons (by kernel_rfl) (opens_string m Try.underlying9) (fields_cons (by kernel_rfl) (opens_ty m) (fields_one (by kernel_rfl) (opens_int m Try.underlying3))))).mono fun f h => h.2.1

/-- A scope, all of it. -/
structure Scp where
  W : List Ifc
  I : List ByteArray
  N : List ByteArray
  B : List Ty
  V : List Vrb
def kScp : Kd Scp := Kd.iso (Kd.pair (Kd.slice 74 kIfc) (Kd.pair (Kd.slice 9 Kd.string) (Kd.pair (Kd.slice 9 Kd.string) (Kd.pair (Kd.slice 29 kTy) (Kd.slice 127 kVrb))))) (fun x : Scp => (x.W, x.I, x.N, x.B, x.V))
theorem opens_scp (n : Nat) : Opens Try.prog kScp (fun s => WOk s.W ∧ (∀ t ∈ s.B, TyOk t) ∧ s.W.length * 64 ≤ 140737488351232) 27 n :=
  (opens_struct (β := Scp) (fun x : Scp => (x.W, x.I, x.N, x.B, x.V)) (fun p => ⟨p.1, p.2.1, p.2.2.1, p.2.2.2.1, p.2.2.2.2⟩) (fun _ => rfl) Try.underlying27 rfl (by kernel_rfl) (by kernel_rfl)
    (fun m _ => fields_cons (by kernel_rfl) (opens_slice Try.underlying22 (by kernel_rfl) (fun q _ => opens_ifc q)) (fields_cons (by kernel_rfl) (opens_slice Try.underlying23 (by kernel_rfl) (fun q _ => opens_string q Try.underlying9)) (fields_cons (by kernel_rfl) (opens_slice Try.underlying23 (by kernel_rfl) (fun q _ => opens_string q Try.underlying9)) (fields_cons (by kernel_rfl) (opens_slice Try.underlying24 (by kernel_rfl) (fun q _ => opens_ty q)) (fields_one (by kernel_rfl) (opens_slice Try.underlying25 (by kernel_rfl) (fun q _ => opens_vrb q)))))))).mono fun f h => ⟨h.1.1, h.2.2.2.1.1, by have := h.1.2; rw [show Try.prog.bytesOf 74 = 64 by kernel_rfl] at this; exact this⟩

/-- What lies where of a scope. -/
structure ScpC (a : ScA) (s : Scp) (w : World) : Prop where
  c : ScC a s.W s.B w
  nI : a.nI = s.I.length
  iC : Kd.C Kd.string w a.AI s.I.length s.I
  ic : s.I.length ≤ a.cI
  nN : a.nN = s.N.length
  nC : Kd.C Kd.string w a.AN s.N.length s.N
  nc : s.N.length ≤ a.cN
  nV : a.nV = s.V.length
  vC : Kd.C kVrb w a.AV s.V.length s.V
  vc : s.V.length ≤ a.cV
theorem ScpC.later {a : ScA} {s : Scp} {w w' : World} (h : ScpC a s w) (hb : Below w.heap.size w w') : ScpC a s w' := ⟨h.c.later hb, h.nI, Kd.C_below h.iC hb, h.ic, h.nN, Kd.C_below h.nC hb, h.nc, h.nV, Kd.C_below h.vC hb, h.vc⟩

set_option maxRecDepth 100000 in
theorem open_ty {H : Type} {ec : TypeId × Value → H} {w : World} {base : Nat} {held : Bool} {r : Reach} {b0 : Nat} {v : Value} {D : DataW H} {p : List MemPlace}
    (hw : ∀ n ∈ D.weights Try.prog 29, n ≤ reachBytes) (hv : Value.okWide Try.prog w r b0 29 v) (hd : DataW.Trod ec Try.prog w base (fun _ => true) held 29 v D p) : ∃ (t : Ty) (A : Option Addr) (c : Nat), v = tyV t A c ∧ TyOk t ∧ t.f4.length ≤ c ∧ Kd.C kTy w A t.f4.length t.f4 := by
  obtain ⟨a, cs, rfl, hK, ok⟩ := open_struct_arg Try.underlying29 opens_ty hw hv hd
  obtain ⟨A, c, h1, h2, h3⟩ := k29_open hK
  exact ⟨a, A, c, by unfold tyV; rw [← h1], ok, h2, h3⟩
set_option maxRecDepth 100000 in
theorem open_tys {H : Type} {ec : TypeId × Value → H} {w : World} {base : Nat} {held : Bool} {r : Reach} {b0 : Nat} {v : Value} {D : DataW H} {p : List MemPlace}
    (hw : ∀ n ∈ D.weights Try.prog 24, n ≤ reachBytes) (hv : Value.okWide Try.prog w r b0 24 v) (hd : DataW.Trod ec Try.prog w base (fun _ => true) held 24 v D p) : ∃ (A : Option Addr) (l : List Ty) (c : Nat), v = .slice A l.length c ∧ l.length ≤ c ∧ l.length * 72 ≤ 140737488351232 ∧ (∀ x ∈ l, TyOk x) ∧ Kd.C kTy w A l.length l := by
  obtain ⟨A, l, c, h1, h2, h3, h4, h5⟩ := open_slice_arg Try.underlying24 (by kernel_rfl) opens_ty hw hv hd
  rw [show Try.prog.bytesOf 29 = 72 by kernel_rfl] at h3
  exact ⟨A, l, c, h1, h2, h3, h4, h5⟩
set_option maxRecDepth 100000 in
theorem open_ifcs {H : Type} {ec : TypeId × Value → H} {w : World} {base : Nat} {held : Bool} {r : Reach} {b0 : Nat} {v : Value} {D : DataW H} {p : List MemPlace}
    (hw : ∀ n ∈ D.weights Try.prog 22, n ≤ reachBytes) (hv : Value.okWide Try.prog w r b0 22 v) (hd : DataW.Trod ec Try.prog w base (fun _ => true) held 22 v D p) : ∃ (A : Option Addr) (l : List Ifc) (c : Nat), v = .slice A l.length c ∧ l.length ≤ c ∧ l.length * 64 ≤ 140737488351232 ∧ WOk l ∧ Kd.C kIfc w A l.length l := by
  obtain ⟨A, l, c, h1, h2, h3, h4, h5⟩ := open_slice_arg Try.underlying22 (by kernel_rfl) opens_ifc hw hv hd
  rw [show Try.prog.bytesOf 74 = 64 by kernel_rfl] at h3
  exact ⟨A, l, c, h1, h2, h3, h4, h5⟩
set_option maxRecDepth 100000 in
theorem open_scp {H : Type} {ec : TypeId × Value → H} {w : World} {base : Nat} {held : Bool} {r : Reach} {b0 : Nat} {v : Value} {D : DataW H} {p : List MemPlace}
    (hw : ∀ n ∈ D.weights Try.prog 27, n ≤ reachBytes) (hv : Value.okWide Try.prog w r b0 27 v) (hd : DataW.Trod ec Try.prog w base (fun _ => true) held 27 v D p) : ∃ (s : Scp) (a : ScA), v = scV a s.W s.B ∧ (WOk s.W ∧ (∀ t ∈ s.B, TyOk t) ∧ s.W.length * 64 ≤ 140737488351232) ∧ ScpC a s w := by
  obtain ⟨s, cs, rfl, hK, ok⟩ := open_struct_arg Try.underlying27 opens_scp hw hv hd
  obtain ⟨_, _, h0, ⟨A0, c0, rfl, l0, g0⟩, ⟨_, _, rfl, ⟨A1, c1, rfl, l1, g1⟩, ⟨_, _, rfl, ⟨A2, c2, rfl, l2, g2⟩, ⟨_, _, rfl, ⟨A3, c3, rfl, l3, g3⟩, ⟨A4, c4, rfl, l4, g4⟩⟩⟩⟩⟩ := hK
  refine ⟨s, ⟨A0, c0, A1, s.I.length, c1, A2, s.N.length, c2, A3, c3, A4, s.V.length, c4⟩, ?_, ok, ⟨⟨g0, l0, g3, l3⟩, rfl, g1, l1, rfl, g2, l2, rfl, g4, l4⟩⟩
  unfold scV
  congr 1
  exact Array.toList_inj.1 h0
end Go.Proofs.Ytbhagjhhgmmcgaa
