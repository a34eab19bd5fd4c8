/- Arguments that are slices of structs, or structs that hold one: read as the walks want them. -/
import Derived.Test.YtnafeapbglflnaaDkE
import Derived.Deep.Slices
import Derived.Deep.Strs
import Derived.Lib.SmallJoins
namespace Go.Proofs.Ytnafeapbglflnaa
open Go.RowKit PRef Go.Proofs.YtnafeapbglflnaaW.PrintWords Go.WideShapes Go.Deep Go.ChangeShapes Go.Joins
set_option linter.unusedVariables false

theorem open_rows {H : Type} {ec : TypeId × Value → H} {w : World} {base : Nat} {spare : Nat → Bool} {held : Bool} {α : Type} {d : Kd α} {enc : α → List Value} {t e : TypeId} {A : Option Addr} {len c fuel : Nat} {x : DataW H × List MemPlace}
    (ht : Try.prog.underlying t = some (.slice e)) (hsz : Try.prog.cellsOf e = d.sz) (hlen : ∀ a, (enc a).length = d.sz) (hK : ∀ a, d.K w a (enc a))
    (hopen : ∀ n cs y, DataW.trod ec Try.prog w base spare held n e cs = some y → ∃ a : α, cs = enc a) (h : DataW.trod ec Try.prog w base spare held fuel t [.slice A len c] = some x) :
    ∃ l : List α, l.length = len ∧ len ≤ c ∧ Kd.C d w A len l := by
  rcases open_slice ht h with ⟨h0, _⟩ | ⟨a, n, cap, m, k, D, Pl, h0, hb, hle, hm, rfl, _, hel⟩
  · injection h0 with h0 _
    injection h0 with h1 h2 h3
    subst h1 h2 h3
    exact ⟨[], rfl, Nat.le_refl _, rfl, by omega, fun h => by omega⟩
  · injection h0 with h0 _
    injection h0 with h1 h2 h3
    subst h1 h2 h3
    have hx : ∀ i : Fin len, ∃ y : α, w.cells? base (a.add (i.1 * Try.prog.cellsOf e)) (Try.prog.cellsOf e) = some (enc y) := by
      intro i
      obtain ⟨cs', h1, h2⟩ := hel i.1 (by have := i.2; split <;> omega)
      obtain ⟨y, rfl⟩ := hopen _ _ _ h2
      exact ⟨y, h1⟩
    obtain ⟨f, hf⟩ := Classical.axiomOfChoice hx
    refine ⟨List.ofFn f, List.length_ofFn, hle, List.length_ofFn, by simp only [maxLen] at hm; omega, fun _ => ⟨a, rfl, fun j p hp => ⟨enc p, hlen p, hK p, fun i u hu => ?_⟩⟩⟩
    rw [List.getElem?_ofFn] at hp
    split at hp
    · rename_i hj
      injection hp with hp
      obtain ⟨_, _, hc⟩ := World.cells?_some (hf ⟨j, hj⟩)
      rw [hp] at hc
      have hi : i < d.sz := by
        rw [← hlen p]
        exact (List.getElem?_eq_some_iff.1 hu).1
      have h2 := hc i (by rw [hsz]; exact hi)
      rw [Addr.add_add, hsz] at h2
      rw [h2]
      exact hu
    · cases hp

theorem open_dep {H : Type} {ec : TypeId × Value → H} {w : World} {base : Nat} {spare : Nat → Bool} {held : Bool} (n : Nat) (cs : List Value) (y : DataW H × List MemPlace) (h : DataW.trod ec Try.prog w base spare held n 43 cs = some y) : ∃ a : S43, cs = depCs a := by
  obtain ⟨y0, y1, y2, k, _, hl, h0, h1, h2⟩ := trod_struct3 Try.underlying43 h
  have hc : Try.prog.cellsOf 43 = 3 := by kernel_rfl
  rw [hc] at hl
  match cs, hl with
  | [a, b, c], _ =>
    have k0 : Try.prog.cellsOf 9 = 1 := by kernel_rfl
    have k1 : Try.prog.cellsOf 4 = 1 := by kernel_rfl
    obtain ⟨s0, e0, _, _⟩ := DataW.trod_string Try.underlying9 h0
    obtain ⟨s1, e1, _⟩ := DataW.trod_bool Try.underlying4 h1
    obtain ⟨s2, e2, _, _⟩ := DataW.trod_string Try.underlying9 h2
    simp only [k0, k1, List.drop, List.take] at e0 e1 e2
    injection e0 with e0
    injection e1 with e1
    injection e2 with e2
    exact ⟨⟨s0, s1, s2⟩, by rw [e0, e1, e2]; rfl⟩

theorem open_diag {H : Type} {ec : TypeId × Value → H} {w : World} {base : Nat} {spare : Nat → Bool} {held : Bool} (n : Nat) (cs : List Value) (y : DataW H × List MemPlace) (h : DataW.trod ec Try.prog w base spare held n 45 cs = some y) : ∃ a : S45, cs = [.int .i64 a.f0, .int .i64 a.f1] := by
  obtain ⟨y0, y1, k, _, hl, h0, h1⟩ := trod_struct2 Try.underlying45 h
  have hc : Try.prog.cellsOf 45 = 2 := by kernel_rfl
  rw [hc] at hl
  match cs, hl with
  | [a, b], _ =>
    have k0 : Try.prog.cellsOf 3 = 1 := by kernel_rfl
    obtain ⟨s0, e0, _, _⟩ := DataW.trod_int Try.underlying3 h0
    obtain ⟨s1, e1, _, _⟩ := DataW.trod_int Try.underlying3 h1
    simp only [k0, List.drop, List.take] at e0 e1
    injection e0 with e0
    injection e1 with e1
    exact ⟨⟨s0, s1⟩, by rw [e0, e1]⟩

/-- A []api.Dep that came in. -/
theorem open_deps {H : Type} {ec : TypeId × Value → H} {w : World} {base : Nat} {spare : Nat → Bool} {held : Bool} {r : Reach} {b0 : Nat} {v : Value} {d : DataW H} {p : List MemPlace}
    (hv : Value.okWide Try.prog w r b0 23 v) (h : DataW.Trod ec Try.prog w base spare held 23 v d p) : ∃ (A : Option Addr) (l : List S43) (c : Nat), v = .slice A l.length c ∧ l.length ≤ c ∧ Kd.C k43 w A l.length l := by
  obtain ⟨A, n, c, rfl⟩ := okWide_slice Try.underlying23 hv
  obtain ⟨k, hk⟩ := h
  obtain ⟨l, rfl, h1, h2⟩ := open_rows (d := k43) (enc := depCs) Try.underlying23 (by kernel_rfl) (fun _ => rfl) (fun a => k43_mk w a) open_dep hk
  exact ⟨A, l, c, rfl, h1, h2⟩

/-- An api.Outcome that came in. -/
theorem open_outcome {H : Type} {ec : TypeId × Value → H} {w : World} {base : Nat} {spare : Nat → Bool} {held : Bool} {r : Reach} {b0 : Nat} {v : Value} {d : DataW H} {p : List MemPlace}
    (hv : Value.okWide Try.prog w r b0 34 v) (h : DataW.Trod ec Try.prog w base spare held 34 v d p) : ∃ (A : Option Addr) (l : List S45) (c : Nat) (b : Bool) (s : ByteArray), v = .agg #[.slice A l.length c, .bool b, .string s] ∧ l.length ≤ c ∧ Kd.C k45 w A l.length l := by
  obtain ⟨v0, v1, v2, y0, y1, y2, n, rfl, _, _, h0, h1, h2⟩ := open_agg3 Try.underlying34 (by kernel_rfl) (by kernel_rfl) hv h
  obtain ⟨s1, e1, _⟩ := DataW.trod_bool Try.underlying4 h1
  obtain ⟨s2, e2, _, _⟩ := DataW.trod_string Try.underlying9 h2
  injection e1 with e1
  injection e2 with e2
  subst e1 e2
  have hs : ∃ A m c, v0 = .slice A m c := by
    rcases open_slice Try.underlying32 h0 with ⟨e, _⟩ | ⟨a, m, c, _, _, _, _, e, _⟩
    · injection e with e; exact ⟨_, _, _, e⟩
    · injection e with e; exact ⟨_, _, _, e⟩
  obtain ⟨A, m, c, rfl⟩ := hs
  obtain ⟨l, rfl, h1, h2⟩ := open_rows (d := k45) (enc := fun a => [.int .i64 a.f0, .int .i64 a.f1]) Try.underlying32 (by kernel_rfl) (fun _ => rfl) (fun a => k45_mk w a) open_diag h0
  exact ⟨A, l, c, s1, s2, rfl, h1, h2⟩
end Go.Proofs.Ytnafeapbglflnaa
