/- Types, declared types and scopes that came in, opened. -/
import Derived.Test.YtbhagjhhgmmcgaaTyK
import Derived.Test.YtbhagjhhgmmcgaaOpen
namespace Go.Proofs.Ytbhagjhhgmmcgaa
open Go.RowKit PRef Go.Proofs.YtbhagjhhgmmcgaaW.PrintWords Go.WideShapes Go.Deep Go.ChangeShapes Go.Joins
set_option linter.unusedVariables false
set_option linter.unusedSimpArgs false

theorem opens_ty : ∀ n : Nat, Opens Try.prog kTy TyOk 29 n := by
  intro n
  induction n using Nat.strongRecOn with
  | ind n ih =>
    have hF : ∀ m, m < n → OpensF Try.prog (Kd.pair (Kd.int .i64) (Kd.pair Kd.string (Kd.pair Kd.string (Kd.pair (Kd.int .i64) (Kd.slice 29 kTy))))) (fun p => (Lit.int .i64 p.1).wf = true ∧ p.2.1.size ≤ 140737488351232 ∧ p.2.2.1.size ≤ 140737488351232 ∧ (Lit.int .i64 p.2.2.2.1).wf = true ∧ ((∀ x ∈ p.2.2.2.2, TyOk x) ∧ p.2.2.2.2.length * Try.prog.bytesOf 29 ≤ 140737488351232)) [3, 9, 9, 3, 24] m := fun m hm =>
      fields_cons (by kernel_rfl) (opens_int m Try.underlying3) (fields_cons (by kernel_rfl) (opens_string m Try.underlying9) (fields_cons (by kernel_rfl) (opens_string m Try.underlying9) (fields_cons (by kernel_rfl) (opens_int m Try.underlying3) (fields_one (by kernel_rfl) (opens_slice Try.underlying24 (by kernel_rfl) (fun q hq => ih q (Nat.lt_trans hq hm)))))))
    intro H ec w base held cs x hx hw
    obtain ⟨⟨a0, a1, a2, a3, a4⟩, ⟨_, _, rfl, rfl, ⟨_, _, rfl, rfl, ⟨_, _, rfl, rfl, ⟨_, _, rfl, rfl, ⟨A4, c4, rfl, l4, g4⟩⟩⟩⟩⟩, _, _, _, _, h5, h6⟩ := opens_struct0 (fs := _) (n := n) Try.underlying29 rfl (by kernel_rfl) (by kernel_rfl) hF H ec w base held cs x hx hw
    rw [show Try.prog.bytesOf 29 = 72 by kernel_rfl] at h6
    exact ⟨⟨a0, a1, a2, a3, a4⟩, k29_mk w ⟨a0, a1, a2, a3, a4⟩ l4 g4, .mk _ (by dsimp only at h6 ⊢; omega) h5⟩

theorem opens_fld (n : Nat) : Opens Try.prog kFld (fun f => TyOk f.f1) 83 n :=
  (opens_struct (β := Fld) (fun x : Fld => (x.f0, x.f1)) (fun p => ⟨p.1, p.2⟩) (fun _ => rfl) Try.underlying83 rfl (by kernel_rfl) (by kernel_rfl)
    (fun m _ => fields_cons (by kernel_rfl) (opens_string m Try.underlying9) (fields_one (by kernel_rfl) (opens_ty m)))).mono fun f h => h.2
def MthOk (m : Mth) : Prop := m.f1.length * 72 ≤ 140737488355328 ∧ (∀ p ∈ m.f1, TyOk p) ∧ TyOk m.f2
theorem opens_mth (n : Nat) : Opens Try.prog kMth MthOk 50 n :=
  (opens_struct (β := Mth) (fun x : Mth => (x.f0, x.f1, x.f2)) (fun p => ⟨p.1, p.2.1, p.2.2⟩) (fun _ => rfl) Try.underlying50 rfl (by kernel_rfl) (by kernel_rfl)
    (fun m _ => fields_cons (by kernel_rfl) (opens_string m Try.underlying9) (fields_cons (by kernel_rfl) (opens_slice Try.underlying24 (by kernel_rfl) (fun q _ => opens_ty q)) (fields_one (by kernel_rfl) (opens_ty m))))).mono fun f h => by
      obtain ⟨_, ⟨h1, h2⟩, h3⟩ := h
      rw [show Try.prog.bytesOf 29 = 72 by kernel_rfl] at h2
      exact ⟨by dsimp only at h2 ⊢; omega, h1, h3⟩
theorem opens_dcl (n : Nat) : Opens Try.prog kDcl DclOk 35 n :=
  (opens_struct (β := Dcl) (fun x : Dcl => (x.f0, x.f1, x.f2, x.f3)) (fun p => ⟨p.1, p.2.1, p.2.2.1, p.2.2.2⟩) (fun _ => rfl) Try.underlying35 rfl (by kernel_rfl) (by kernel_rfl)
    (fun m _ => fields_cons (by kernel_rfl) (opens_string m Try.underlying9) (fields_cons (by kernel_rfl) (opens_bool m Try.underlying4) (fields_cons (by kernel_rfl) (opens_slice Try.underlying32 (by kernel_rfl) (fun q _ => opens_fld q)) (fields_one (by kernel_rfl) (opens_slice Try.underlying33 (by kernel_rfl) (fun q _ => opens_mth q))))))).mono fun f h => by
      obtain ⟨_, _, ⟨h1, h2⟩, h3, h4⟩ := h
      rw [show Try.prog.bytesOf 83 = 88 by kernel_rfl] at h2
      rw [show Try.prog.bytesOf 50 = 112 by kernel_rfl] at h4
      exact ⟨by dsimp only at h2 ⊢; omega, by dsimp only at h4 ⊢; omega, h1, h3⟩
def FunOk (m : Fun) : Prop := m.f1.length * 72 ≤ 140737488355328 ∧ (∀ p ∈ m.f1, TyOk p) ∧ m.f2.length * 72 ≤ 140737488355328 ∧ (∀ p ∈ m.f2, TyOk p) ∧ TyOk m.f3
theorem opens_fun (n : Nat) : Opens Try.prog kFun FunOk 58 n :=
  (opens_struct (β := Fun) (fun x : Fun => (x.f0, x.f1, x.f2, x.f3)) (fun p => ⟨p.1, p.2.1, p.2.2.1, p.2.2.2⟩) (fun _ => rfl) Try.underlying58 rfl (by kernel_rfl) (by kernel_rfl)
    (fun m _ => fields_cons (by kernel_rfl) (opens_string m Try.underlying9) (fields_cons (by kernel_rfl) (opens_slice Try.underlying24 (by kernel_rfl) (fun q _ => opens_ty q)) (fields_cons (by kernel_rfl) (opens_slice Try.underlying24 (by kernel_rfl) (fun q _ => opens_ty q)) (fields_one (by kernel_rfl) (opens_ty m)))))).mono fun f h => by
      obtain ⟨_, ⟨h1, h2⟩, ⟨h3, h4⟩, h5⟩ := h
      rw [show Try.prog.bytesOf 29 = 72 by kernel_rfl] at h2 h4
      exact ⟨by dsimp only at h2 ⊢; omega, h1, by dsimp only at h4 ⊢; omega, h3, h5⟩
theorem opens_ifc (n : Nat) : Opens Try.prog kIfc (fun p => ∀ d ∈ p.f1, DclOk d) 74 n :=
  (opens_struct (β := Ifc) (fun x : Ifc => (x.f0, x.f1, x.f2)) (fun p => ⟨p.1, p.2.1, p.2.2⟩) (fun _ => rfl) Try.underlying74 rfl (by kernel_rfl) (by kernel_rfl)
    (fun m _ => fields_cons (by kernel_rfl) (opens_string m Try.underlying9) (fields_cons (by kernel_rfl) (opens_slice Try.underlying71 (by kernel_rfl) (fun q _ => opens_dcl q)) (fields_one (by kernel_rfl) (opens_slice Try.underlying72 (by kernel_rfl) (fun q _ => opens_fun q)))))).mono fun f h => h.2.1.1
abbrev Vrb := S127
abbrev kVrb := k127
theorem opens_vrb (n : Nat) : Opens Try.prog kVrb (fun f => TyOk f.f1) 127 n :=
  (opens_struct (β := Vrb) (fun x : Vrb => (x.f0, x.f1, x.f2)) (fun p => ⟨p.1, p.2.1, p.2.2⟩) (fun _ => rfl) Try.underlying127 rfl (by kernel_rfl) (by kernel_rfl)
    (fun m _ => fields_cons (by kernel_rfl) (opens_string m Try.underlying9) (fields_cons (by kernel_rfl) (opens_ty m) (fields_one (by kernel_rfl) (opens_int m Try.underlying3))))).mono fun f h => h.2.1

/-- A scope, all of it. -/
structure Scp where
  W : List Ifc
  I : List ByteArray
  N : List ByteArray
  B : List Ty
  V : List Vrb
def kScp : Kd Scp := Kd.iso (Kd.pair (Kd.slice 74 kIfc) (Kd.pair (Kd.slice 9 Kd.string) (Kd.pair (Kd.slice 9 Kd.string) (Kd.pair (Kd.slice 29 kTy) (Kd.slice 127 kVrb))))) (fun x : Scp => (x.W, x.I, x.N, x.B, x.V))
theorem opens_scp (n : Nat) : Opens Try.prog kScp (fun s => WOk s.W ∧ (∀ t ∈ s.B, TyOk t) ∧ s.W.length * 64 ≤ 140737488351232) 27 n :=
  (opens_struct (β := Scp) (fun x : Scp => (x.W, x.I, x.N, x.B, x.V)) (fun p => ⟨p.1, p.2.1, p.2.2.1, p.2.2.2.1, p.2.2.2.2⟩) (fun _ => rfl) Try.underlying27 rfl (by kernel_rfl) (by kernel_rfl)
    (fun m _ => fields_cons (by kernel_rfl) (opens_slice Try.underlying22 (by kernel_rfl) (fun q _ => opens_ifc q)) (fields_cons (by kernel_rfl) (opens_slice Try.underlying23 (by kernel_rfl) (fun q _ => opens_string q Try.underlying9)) (fields_cons (by kernel_rfl) (opens_slice Try.underlying23 (by kernel_rfl) (fun q _ => opens_string q Try.underlying9)) (fields_cons (by kernel_rfl) (opens_slice Try.underlying24 (by kernel_rfl) (fun q _ => opens_ty q)) (fields_one (by kernel_rfl) (opens_slice Try.underlying25 (by kernel_rfl) (fun q _ => opens_vrb q)))))))).mono fun f h => ⟨h.1.1, h.2.2.2.1.1, by have := h.1.2; rw [show Try.prog.bytesOf 74 = 64 by kernel_rfl] at this; exact this⟩

/-- What lies where of a scope. -/
structure ScpC (a : ScA) (s : Scp) (w : World) : Prop where
  c : ScC a s.W s.B w
  nI : a.nI = s.I.length
  iC : Kd.C Kd.string w a.AI s.I.length s.I
  ic : s.I.length ≤ a.cI
  nN : a.nN = s.N.length
  nC : Kd.C Kd.string w a.AN s.N.length s.N
  nc : s.N.length ≤ a.cN
  nV : a.nV = s.V.length
  vC : Kd.C kVrb w a.AV s.V.length s.V
  vc : s.V.length ≤ a.cV
theorem ScpC.later {a : ScA} {s : Scp} {w w' : World} (h : ScpC a s w) (hb : Below w.heap.size w w') : ScpC a s w' := ⟨h.c.later hb, h.nI, Kd.C_below h.iC hb, h.ic, h.nN, Kd.C_below h.nC hb, h.nc, h.nV, Kd.C_below h.vC hb, h.vc⟩

set_option maxRecDepth 100000 in
theorem open_ty {H : Type} {ec : TypeId × Value → H} {w : World} {base : Nat} {held : Bool} {r : Reach} {b0 : Nat} {v : Value} {D : DataW H} {p : List MemPlace}
    (hw : ∀ n ∈ D.weights Try.prog 29, n ≤ reachBytes) (hv : Value.okWide Try.prog w r b0 29 v) (hd : DataW.Trod ec Try.prog w base (fun _ => true) held 29 v D p) : ∃ (t : Ty) (A : Option Addr) (c : Nat), v = tyV t A c ∧ TyOk t ∧ t.f4.length ≤ c ∧ Kd.C kTy w A t.f4.length t.f4 := by
  obtain ⟨a, cs, rfl, hK, ok⟩ := open_struct_arg Try.underlying29 opens_ty hw hv hd
  obtain ⟨A, c, h1, h2, h3⟩ := k29_open hK
  exact ⟨a, A, c, by unfold tyV; rw [← h1], ok, h2, h3⟩
set_option maxRecDepth 100000 in
theorem open_tys {H : Type} {ec : TypeId × Value → H} {w : World} {base : Nat} {held : Bool} {r : Reach} {b0 : Nat} {v : Value} {D : DataW H} {p : List MemPlace}
    (hw : ∀ n ∈ D.weights Try.prog 24, n ≤ reachBytes) (hv : Value.okWide Try.prog w r b0 24 v) (hd : DataW.Trod ec Try.prog w base (fun _ => true) held 24 v D p) : ∃ (A : Option Addr) (l : List Ty) (c : Nat), v = .slice A l.length c ∧ l.length ≤ c ∧ l.length * 72 ≤ 140737488351232 ∧ (∀ x ∈ l, TyOk x) ∧ Kd.C kTy w A l.length l := by
  obtain ⟨A, l, c, h1, h2, h3, h4, h5⟩ := open_slice_arg Try.underlying24 (by kernel_rfl) opens_ty hw hv hd
  rw [show Try.prog.bytesOf 29 = 72 by kernel_rfl] at h3
  exact ⟨A, l, c, h1, h2, h3, h4, h5⟩
set_option maxRecDepth 100000 in
theorem open_ifcs {H : Type} {ec : TypeId × Value → H} {w : World} {base : Nat} {held : Bool} {r : Reach} {b0 : Nat} {v : Value} {D : DataW H} {p : List MemPlace}
    (hw : ∀ n ∈ D.weights Try.prog 22, n ≤ reachBytes) (hv : Value.okWide Try.prog w r b0 22 v) (hd : DataW.Trod ec Try.prog w base (fun _ => true) held 22 v D p) : ∃ (A : Option Addr) (l : List Ifc) (c : Nat), v = .slice A l.length c ∧ l.length ≤ c ∧ l.length * 64 ≤ 140737488351232 ∧ WOk l ∧ Kd.C kIfc w A l.length l := by
  obtain ⟨A, l, c, h1, h2, h3, h4, h5⟩ := open_slice_arg Try.underlying22 (by kernel_rfl) opens_ifc hw hv hd
  rw [show Try.prog.bytesOf 74 = 64 by kernel_rfl] at h3
  exact ⟨A, l, c, h1, h2, h3, h4, h5⟩
set_option maxRecDepth 100000 in
theorem open_scp {H : Type} {ec : TypeId × Value → H} {w : World} {base : Nat} {held : Bool} {r : Reach} {b0 : Nat} {v : Value} {D : DataW H} {p : List MemPlace}
    (hw : ∀ n ∈ D.weights Try.prog 27, n ≤ reachBytes) (hv : Value.okWide Try.prog w r b0 27 v) (hd : DataW.Trod ec Try.prog w base (fun _ => true) held 27 v D p) : ∃ (s : Scp) (a : ScA), v = scV a s.W s.B ∧ (WOk s.W ∧ (∀ t ∈ s.B, TyOk t) ∧ s.W.length * 64 ≤ 140737488351232) ∧ ScpC a s w := by
  obtain ⟨s, cs, rfl, hK, ok⟩ := open_struct_arg Try.underlying27 opens_scp hw hv hd
  obtain ⟨_, _, h0, ⟨A0, c0, rfl, l0, g0⟩, ⟨_, _, rfl, ⟨A1, c1, rfl, l1, g1⟩, ⟨_, _, rfl, ⟨A2, c2, rfl, l2, g2⟩, ⟨_, _, rfl, ⟨A3, c3, rfl, l3, g3⟩, ⟨A4, c4, rfl, l4, g4⟩⟩⟩⟩⟩ := hK
  refine ⟨s, ⟨A0, c0, A1, s.I.length, c1, A2, s.N.length, c2, A3, c3, A4, s.V.length, c4⟩, ?_, ok, ⟨⟨g0, l0, g3, l3⟩, rfl, g1, l1, rfl, g2, l2, rfl, g4, l4⟩⟩
  unfold scV
  congr 1
  exact Array.toList_inj.1 h0
end Go.Proofs.Ytbhagjhhgmmcgaa
