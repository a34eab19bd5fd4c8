/- Openers of arguments: what an argument of a kind is (slices, structs, strings, numbers). -/
import Derived.Test.YtpdilplgdbcjpaaPRefx0
import Derived.Test.YtpdilplgdbcjpaaBase
import Derived.Deep.Slices
import Derived.OpenShut
import Derived.Lib.SmallJoins
import Derived.SizedLaws
namespace Go.Proofs.Ytpdilplgdbcjpaa
open Go.RowKit PRef Go.Proofs.YtpdilplgdbcjpaaW.PrintWords Go.WideShapes Go.Deep Go.ChangeShapes Go.Joins
set_option linter.unusedVariables false
set_option linter.unusedSimpArgs false
/-- What lies in cells of a type, at so much fuel, is a datum of the kind. -/
def Opens (P : Program) {α : Type} (d : Kd α) (ok : α → Prop) (t : TypeId) (n : Nat) : Prop :=
  ∀ (H : Type) (ec : TypeId × Value → H) (w : World) (base : Nat) (held : Bool) (cs : List Value) (x : DataW H × List MemPlace), DataW.trod ec P w base (fun _ => true) held n t cs = some x → (∀ k ∈ x.1.weights P t, k ≤ reachBytes) → ∃ a : α, d.K w a cs ∧ ok a

theorem Opens.mono {P : Program} {α : Type} {d : Kd α} {ok ok' : α → Prop} {t : TypeId} {n : Nat} (h : Opens P d ok t n) (hi : ∀ a, ok a → ok' a) : Opens P d ok' t n := fun H ec w base held cs x hx hw => by
  obtain ⟨a, h1, h2⟩ := h H ec w base held cs x hx hw
  exact ⟨a, h1, hi a h2⟩

theorem opens_int {P : Program} {t : TypeId} {k : IntKind} (n : Nat) (hu : P.underlying t = some (.int k)) : Opens P (Kd.int k) (fun x => (Lit.int k x).wf = true) t n := fun H ec w base held cs x hx _ => by
  obtain ⟨s, rfl, _, h⟩ := DataW.trod_int hu hx
  exact ⟨s, rfl, h⟩
theorem opens_bool {P : Program} {t : TypeId} (n : Nat) (hu : P.underlying t = some .bool) : Opens P Kd.bool (fun _ => True) t n := fun H ec w base held cs x hx _ => by
  obtain ⟨s, rfl, _⟩ := DataW.trod_bool hu hx
  exact ⟨s, rfl, trivial⟩
theorem opens_string {P : Program} {t : TypeId} (n : Nat) (hu : P.underlying t = some .string) : Opens P Kd.string (fun s => s.size ≤ 140737488351232) t n := fun H ec w base held cs x hx hw => by
  obtain ⟨s, rfl, rfl, _⟩ := DataW.trod_string hu hx
  refine ⟨s, rfl, ?_⟩
  have := hw s.data.toList.length (by simp [DataW.weights])
  rw [show reachBytes = 140737488351232 by decide] at this
  simpa using this

theorem weightsAll_mem' {H : Type} {P : Program} {e : TypeId} : ∀ {l : List (DataW H)} {d : DataW H}, d ∈ l → ∀ n ∈ d.weights P e, n ∈ DataW.weightsAll P e l
  | [], _, h, _, _ => by cases h
  | a :: r, d, h, n, hn => by
    rw [DataW.weightsAll, List.mem_append]
    rcases List.mem_cons.1 h with rfl | h
    · exact .inl hn
    · exact .inr (weightsAll_mem' h n hn)

theorem opens_slice {P : Program} {α : Type} {d : Kd α} {ok : α → Prop} {t e : TypeId} {n : Nat} (hu : P.underlying t = some (.slice e)) (hsz : P.cellsOf e = d.sz) (h : ∀ m, m < n → Opens P d ok e m) :
    Opens P (Kd.slice e d) (fun l => (∀ x ∈ l, ok x) ∧ l.length * P.bytesOf e ≤ 140737488351232) t n := fun H ec w base held cs x hx hw => by
  have hr : reachBytes = 140737488351232 := by decide
  rcases DataW.trod_slice hu hx with ⟨rfl, rfl⟩ | ⟨a, len, cap, elems, rest, m, rfl, rfl, rfl, hb, hle, hm, hlen, hel, hsp, _⟩
  · exact ⟨[], ⟨none, 0, rfl, Nat.le_refl _, ⟨rfl, by simp, fun h => by simp at h⟩⟩, by simp, by simp⟩
  · have hall : ∀ i : Fin len, ∃ (y : α) (c : List Value), w.cells? base (a.add (i.1 * P.cellsOf e)) (P.cellsOf e) = some c ∧ d.K w y c ∧ ok y := by
      intro i
      have h1 := hel i.1 i.2
      have hi : i.1 < elems.length := by rw [hlen]; exact i.2
      rw [List.getElem?_eq_getElem hi] at h1
      obtain ⟨c, h2, h3⟩ := Option.bind_eq_some_iff.1 h1
      obtain ⟨y, h4, h5⟩ := h m (Nat.lt_succ_self m) H ec w base held c _ h3 (fun k hk => hw k (by
        simp only [DataW.weights, hu]
        refine List.mem_cons_of_mem _ (List.mem_append_left _ (weightsAll_mem' ?_ k hk))
        exact List.mem_map_of_mem (List.getElem_mem hi)))
      exact ⟨y, c, h2, h4, h5⟩
    obtain ⟨f, hf⟩ := Classical.axiomOfChoice hall
    have hwt := hw ((elems.length + rest.length) * P.bytesOf e) (by simp only [DataW.weights, hu, List.length_map]; exact List.mem_cons_self)
    have hle2 : len * P.bytesOf e ≤ 140737488351232 := by
      rw [hr] at hwt
      exact Nat.le_trans (Nat.mul_le_mul_right _ (by omega)) hwt
    refine ⟨List.ofFn f, ⟨some a, cap, by rw [List.length_ofFn], by rw [List.length_ofFn]; exact hle, by rw [List.length_ofFn], by rw [List.length_ofFn]; simp only [maxLen] at hm; omega, fun _ => ⟨a, rfl, fun j p hp => ?_⟩⟩, ?_, by rw [List.length_ofFn]; exact hle2⟩
    · rw [List.getElem?_ofFn] at hp
      split at hp
      · rename_i hj
        injection hp with hp
        obtain ⟨c, h1, h2, _⟩ := hf ⟨j, hj⟩
        rw [hp] at h2
        have hl := d.K_len h2
        obtain ⟨_, _, hc⟩ := World.cells?_some h1
        refine ⟨c, hl, h2, fun i u hu' => ?_⟩
        have hi : i < d.sz := by rw [← hl]; exact (List.getElem?_eq_some_iff.1 hu').1
        have h3 := hc i (by rw [hsz]; exact hi)
        rw [Addr.add_add, hsz] at h3
        rw [h3]
        exact hu'
      · cases hp
    · intro x hx
      obtain ⟨i, rfl⟩ : ∃ i, f i = x := by simpa [List.mem_ofFn] using hx
      obtain ⟨_, _, _, h3⟩ := hf i
      exact h3

/-- Where the so-manieth of some fields begins. -/
def offs (P : Program) (ts : List TypeId) (j : Nat) : Nat := ((ts.take j).map P.cellsOf).sum
def OpensF (P : Program) {α : Type} (d : Kd α) (ok : α → Prop) (ts : List TypeId) (n : Nat) : Prop :=
  ∀ (H : Type) (ec : TypeId × Value → H) (w : World) (base : Nat) (held : Bool) (cs : List Value) (xs : List (DataW H × List MemPlace)), cs.length = d.sz → xs.length = ts.length →
    (∀ (j : Nat) t, ts[j]? = some t → DataW.trod ec P w base (fun _ => true) held n t ((cs.drop (offs P ts j)).take (P.cellsOf t)) = xs[j]?) → (∀ k ∈ DataW.weightsEach P ts (xs.map (·.1)), k ≤ reachBytes) → ∃ a : α, d.K w a cs ∧ ok a
theorem fields_one {P : Program} {α : Type} {d : Kd α} {ok : α → Prop} {t : TypeId} {n : Nat} (hsz : P.cellsOf t = d.sz) (h : Opens P d ok t n) : OpensF P d ok [t] n := fun H ec w base held cs xs hl hx hf hw => by
  match xs, hx with
  | [x], _ =>
    have h0 := hf 0 t rfl
    simp only [offs, List.take_zero, List.map_nil, List.sum_nil, List.drop_zero, List.getElem?_cons_zero] at h0
    rw [List.take_of_length_le (by omega)] at h0
    exact h H ec w base held cs x h0 (fun k hk => hw k (by simpa [DataW.weightsEach] using hk))
theorem fields_cons {P : Program} {α β : Type} {d : Kd α} {d' : Kd β} {ok : α → Prop} {ok' : β → Prop} {t : TypeId} {ts : List TypeId} {n : Nat} (hsz : P.cellsOf t = d.sz) (h : Opens P d ok t n) (h' : OpensF P d' ok' ts n) : OpensF P (Kd.pair d d') (fun p => ok p.1 ∧ ok' p.2) (t :: ts) n := fun H ec w base held cs xs hl hx hf hw => by
  match xs, hx with
  | x :: r, hx =>
    have hl' : cs.length = d.sz + d'.sz := hl
    have h0 := hf 0 t rfl
    simp only [offs, List.take_zero, List.map_nil, List.sum_nil, List.drop_zero, List.getElem?_cons_zero] at h0
    obtain ⟨a, h1, h2⟩ := h H ec w base held _ x h0 (fun k hk => hw k (by simp [DataW.weightsEach, hk]))
    obtain ⟨b, h3, h4⟩ := h' H ec w base held (cs.drop d.sz) r (by rw [List.length_drop]; omega) (by simpa using hx) (fun j u hu => by
      have := hf (j + 1) u (by simpa using hu)
      simp only [offs, List.take_succ_cons, List.map_cons, List.sum_cons, List.getElem?_cons_succ] at this
      rw [List.drop_drop, ← hsz]
      exact this) (fun k hk => hw k (by simp [DataW.weightsEach, hk]))
    rw [hsz] at h1
    exact ⟨(a, b), ⟨cs.take d.sz, cs.drop d.sz, (List.take_append_drop _ _).symm, h1, h3⟩, h2, h4⟩
theorem opens_struct0 {P : Program} {α : Type} {d : Kd α} {ok : α → Prop} {t : TypeId} {ts : List TypeId} {fs : Array Field} {n : Nat} (hu : P.underlying t = some (.struct fs)) (hts : fs.toList.map (·.type) = ts) (hoff : fs.toList.map (·.offset) = (List.range ts.length).map (offs P ts)) (hsz : P.cellsOf t = d.sz)
    (h : ∀ m, m < n → OpensF P d ok ts m) : Opens P d ok t n := fun H ec w base held cs x hx hw => by
  obtain ⟨xs, m, rfl, rfl, hl, hlen, hf⟩ := DataW.trod_struct hu hx
  have hn : ts.length = fs.size := by rw [← hts, List.length_map, Array.length_toList]
  refine h m (Nat.lt_succ_self m) H ec w base held cs xs (hl.trans hsz) (hlen.trans hn.symm) (fun j t' hj => ?_) (fun k hk => hw k ?_)
  · rw [← hts, List.getElem?_map] at hj
    obtain ⟨f, h1, rfl⟩ := Option.map_eq_some_iff.1 hj
    have h2 := hf j f (by rw [← Array.getElem?_toList]; exact h1)
    have h3 : (fs.toList.map (·.offset))[j]? = some f.offset := by rw [List.getElem?_map, h1]; rfl
    have hj' : j < ts.length := by rw [hn, ← Array.length_toList]; exact (List.getElem?_eq_some_iff.1 h1).1
    rw [hoff, List.getElem?_map, List.getElem?_range hj'] at h3
    rw [Option.some.inj h3]
    exact h2
  · simp only [DataW.weights, hu]
    rw [hts]
    exact hk
theorem opens_struct {P : Program} {α β : Type} {d : Kd α} {ok : α → Prop} {t : TypeId} {ts : List TypeId} {fs : Array Field} {n : Nat} (f : β → α) (g : α → β) (hfg : ∀ a, f (g a) = a) (hu : P.underlying t = some (.struct fs)) (hts : fs.toList.map (·.type) = ts) (hoff : fs.toList.map (·.offset) = (List.range ts.length).map (offs P ts)) (hsz : P.cellsOf t = d.sz)
    (h : ∀ m, m < n → OpensF P d ok ts m) : Opens P (Kd.iso d f) (fun b => ok (f b)) t n := fun H ec w base held cs x hx hw => by
  obtain ⟨a, h1, h2⟩ := opens_struct0 hu hts hoff hsz h H ec w base held cs x hx hw
  exact ⟨g a, by show d.K w (f (g a)) cs; rw [hfg]; exact h1, by show ok (f (g a)); rw [hfg]; exact h2⟩

/-- An argument that is a struct. -/
theorem open_struct_arg {P : Program} {α : Type} {d : Kd α} {ok : α → Prop} {t : TypeId} {fs : Array Field} (hu : P.underlying t = some (.struct fs)) (h : ∀ n, Opens P d ok t n) {H : Type} {ec : TypeId × Value → H} {w : World} {base : Nat} {held : Bool} {r : Reach} {b0 : Nat} {v : Value} {D : DataW H} {p : List MemPlace}
    (hw : ∀ n ∈ D.weights P t, n ≤ reachBytes) (hv : Value.okWide P w r b0 t v) (hd : DataW.Trod ec P w base (fun _ => true) held t v D p) : ∃ (a : α) (cs : Array Value), v = .agg cs ∧ d.K w a cs.toList ∧ ok a := by
  obtain ⟨cs, rfl, _⟩ := okWide_struct hu hv
  obtain ⟨n, hn⟩ := hd
  obtain ⟨a, h1, h2⟩ := h n H ec w base held _ _ hn hw
  exact ⟨a, cs, rfl, h1, h2⟩
/-- An argument that is a slice. -/
theorem open_slice_arg {P : Program} {α : Type} {d : Kd α} {ok : α → Prop} {t e : TypeId} (hu : P.underlying t = some (.slice e)) (hsz : P.cellsOf e = d.sz) (h : ∀ n, Opens P d ok e n) {H : Type} {ec : TypeId × Value → H} {w : World} {base : Nat} {held : Bool} {r : Reach} {b0 : Nat} {v : Value} {D : DataW H} {p : List MemPlace}
    (hw : ∀ n ∈ D.weights P t, n ≤ reachBytes) (hv : Value.okWide P w r b0 t v) (hd : DataW.Trod ec P w base (fun _ => true) held t v D p) :
    ∃ (A : Option Addr) (l : List α) (c : Nat), v = .slice A l.length c ∧ l.length ≤ c ∧ l.length * P.bytesOf e ≤ 140737488351232 ∧ (∀ x ∈ l, ok x) ∧ Kd.C d w A l.length l := by
  obtain ⟨A, m, c, rfl⟩ := okWide_slice hu hv
  obtain ⟨n, hn⟩ := hd
  obtain ⟨l, ⟨A', c', h1, h2, h3⟩, h4, h5⟩ := opens_slice hu hsz (n := n) (fun m _ => h m) H ec w base held _ _ hn hw
  have h1' : [Value.slice A m c] = [Value.slice A' l.length c'] := h1
  injection h1' with h1' _
  injection h1' with e1 e2 e3
  subst e1 e2 e3
  exact ⟨A, l, c, rfl, h2, h5, h4, h3⟩
end Go.Proofs.Ytpdilplgdbcjpaa
