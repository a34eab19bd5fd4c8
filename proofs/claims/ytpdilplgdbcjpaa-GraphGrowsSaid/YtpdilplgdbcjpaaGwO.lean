/- Openers of the arguments of graph's statements. -/
import Derived.Test.YtpdilplgdbcjpaaOp
import Derived.Test.YtpdilplgdbcjpaaGwK
namespace Go.Proofs.Ytpdilplgdbcjpaa
open Go.RowKit PRef Go.Proofs.YtpdilplgdbcjpaaW.PrintWords Go.WideShapes Go.Deep Go.ChangeShapes Go.Joins
set_option linter.unusedVariables false
set_option linter.unusedSimpArgs false
/-- What an argument's reach says of a node. -/
def NdW (x : S36) : Prop := x.f0.size ≤ 140737488351232 ∧ (∀ s ∈ x.f1, s.size ≤ 140737488351232) ∧ x.f1.length * 16 ≤ 140737488351232
theorem opens_node (n : Nat) : Opens Try.prog k36 NdW 36 n :=
  (opens_struct (β := S36) (fun x : S36 => (x.f0, x.f1)) (fun p => ⟨p.1, p.2⟩) (fun _ => rfl) Try.underlying36 rfl (by kernel_rfl) (by kernel_rfl)
    (fun m _ => fields_cons (by kernel_rfl) (opens_string m Try.underlying9) (fields_one (by kernel_rfl) (opens_slice Try.underlying25 (by kernel_rfl) (fun q _ => opens_string q Try.underlying9))))).mono fun f h => by
      obtain ⟨h0, h1, h2⟩ := h
      rw [show Try.prog.bytesOf 9 = 16 by kernel_rfl] at h2
      exact ⟨h0, h1, h2⟩
set_option maxRecDepth 100000 in
theorem open_nodes {H : Type} {ec : TypeId × Value → H} {w : World} {base : Nat} {held : Bool} {r : Reach} {b0 : Nat} {v : Value} {D : DataW H} {p : List MemPlace}
    (hw : ∀ n ∈ D.weights Try.prog 22, n ≤ reachBytes) (hv : Value.okWide Try.prog w r b0 22 v) (hd : DataW.Trod ec Try.prog w base (fun _ => true) held 22 v D p) : ∃ (A : Option Addr) (l : List S36) (c : Nat), v = .slice A l.length c ∧ l.length ≤ c ∧ (∀ x ∈ l, NdW x) ∧ Kd.C k36 w A l.length l := by
  obtain ⟨A, l, c, h1, h2, h3, h4, h5⟩ := open_slice_arg Try.underlying22 (by kernel_rfl) opens_node hw hv hd
  exact ⟨A, l, c, h1, h2, h4, h5⟩
set_option maxRecDepth 100000 in
theorem open_names {H : Type} {ec : TypeId × Value → H} {w : World} {base : Nat} {held : Bool} {r : Reach} {b0 : Nat} {v : Value} {D : DataW H} {p : List MemPlace}
    (hw : ∀ n ∈ D.weights Try.prog 25, n ≤ reachBytes) (hv : Value.okWide Try.prog w r b0 25 v) (hd : DataW.Trod ec Try.prog w base (fun _ => true) held 25 v D p) : ∃ (A : Option Addr) (l : List ByteArray) (c : Nat), v = .slice A l.length c ∧ l.length ≤ c ∧ (∀ x ∈ l, x.size ≤ 140737488351232) ∧ Kd.C Kd.string w A l.length l := by
  obtain ⟨A, l, c, h1, h2, h3, h4, h5⟩ := open_slice_arg Try.underlying25 (by kernel_rfl) (fun n => opens_string n Try.underlying9) hw hv hd
  exact ⟨A, l, c, h1, h2, h4, h5⟩
set_option maxRecDepth 100000 in
theorem open_node {H : Type} {ec : TypeId × Value → H} {w : World} {base : Nat} {held : Bool} {r : Reach} {b0 : Nat} {v : Value} {D : DataW H} {p : List MemPlace}
    (hw : ∀ n ∈ D.weights Try.prog 36, n ≤ reachBytes) (hv : Value.okWide Try.prog w r b0 36 v) (hd : DataW.Trod ec Try.prog w base (fun _ => true) held 36 v D p) : ∃ (x : S36) (A : Option Addr) (c : Nat), v = .agg #[.string x.f0, .slice A x.f1.length c] ∧ x.f1.length ≤ c ∧ NdW x ∧ Kd.string.C w A x.f1.length x.f1 := by
  obtain ⟨a, cs, rfl, hK, ok⟩ := open_struct_arg Try.underlying36 opens_node hw hv hd
  obtain ⟨A, c, h1, h2, h3⟩ := k36_open hK
  exact ⟨a, A, c, by rw [← h1], h2, ok, h3⟩
/-- An argument of nodes, as names. -/
theorem nodes_arg {l : List S36} (h : ∀ x ∈ l, NdW x) : ∀ d ∈ l.map toNd, d.name.length ≤ maxLen ∧ ∀ i ∈ d.imps, i.length ≤ maxLen := by
  intro d hd
  obtain ⟨x, hx, rfl⟩ := List.mem_map.1 hd
  have h1 := h x hx
  refine ⟨?_, fun i hi => ?_⟩
  · have : x.f0.data.toList.length = x.f0.size := by rw [Array.length_toList]; rfl
    unfold maxLen toNd
    have h2 := h1.1
    simp only
    omega
  · obtain ⟨s, hs, rfl⟩ := List.mem_map.1 (show i ∈ x.f1.map (fun s => s.data.toList) from hi)
    have : s.data.toList.length = s.size := by rw [Array.length_toList]; rfl
    have h2 := h1.2.1 s hs
    unfold maxLen
    omega
end Go.Proofs.Ytpdilplgdbcjpaa
