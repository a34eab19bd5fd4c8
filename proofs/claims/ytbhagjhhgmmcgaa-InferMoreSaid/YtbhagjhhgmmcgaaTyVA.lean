/- What the laws over calls share: a call's two results, as they are read. -/
import Derived.Test.YtbhagjhhgmmcgaaTyUP
import Derived.Test.YtbhagjhhgmmcgaaTyUJ
namespace Go.Proofs.Ytbhagjhhgmmcgaa
open Go.RowKit PRef Go.Proofs.YtbhagjhhgmmcgaaW.PrintWords
set_option linter.unusedVariables false
set_option linter.unusedSimpArgs false

theorem callL_bound (W : List Ifc) (B : List Ty) (f : Fun) (args : List Ty) (h : args.length ≤ 9000000000000000000) : (callL W B f args).length ≤ 9223372036854775807 := by
  unfold callL
  rw [List.length_append, List.length_append]
  have h1 := callA_len args.length f.f2.length
  have h2 := callB_len W B (unifyN f.f2 args f.f1.length) f.f1 (unifyN f.f2 args f.f1.length).length
  have h3 := callP_len W B (unifyN f.f2 args f.f1.length) f.f2 args (min f.f2.length args.length)
  have h4 := (unifyN_len f.f2 args f.f1.length).2
  omega
theorem callL_bound2 (W : List Ifc) (B : List Ty) (f : Fun) (args : List Ty) (h : args.length ≤ 9000000000000000000) : (callL W B f args).length ≤ 9000000000000000017 := by
  unfold callL
  rw [List.length_append, List.length_append]
  have h1 := callA_len args.length f.f2.length
  have h2 := callB_len W B (unifyN f.f2 args f.f1.length) f.f1 (unifyN f.f2 args f.f1.length).length
  have h3 := callP_len W B (unifyN f.f2 args f.f1.length) f.f2 args (min f.f2.length args.length)
  have h4 := (unifyN_len f.f2 args f.f1.length).2
  omega
theorem call_post {w w' : World} {T : Ty} {L : List Wr} {e : Ending} (h : ∃ A' c' v, e = .returned (.tuple #[tyV T A' c', v]) ∧ T.f4.length ≤ c' ∧ Kd.C kTy w' A' T.f4.length T.f4 ∧ Wrs w' w.heap.size v L ∧ Below w.heap.size w w') : ∃ A' c' B' d', e = .returned (.tuple #[tyV T A' c', .slice B' L.length d']) ∧ T.f4.length ≤ c' ∧ Kd.C kTy w' A' T.f4.length T.f4 ∧ L.length ≤ d' ∧ RdW w' B' L ∧ Below w.heap.size w w' := by
  obtain ⟨A', c', v, rfl, h1, h2, h3, h4⟩ := h
  obtain ⟨B', d', rfl, h5, h6⟩ := C_same h3
  exact ⟨A', c', B', d', rfl, h1, h2, h5, h6, h4⟩
theorem call_show (a : ScA) (W : List Ifc) (B : List Ty) (f : Fun) (b : FnA) (args : List Ty) (AA : Option Addr) (ca : Nat) (w : World) (hW : ScC a W B w) (ok : WOk W) (hF : FnC b f w) (hA : Kd.C kTy w AA args.length args) (lA : args.length ≤ ca)
    (hp : ∀ x ∈ f.f2, TyW x) (ha : ∀ x ∈ args, TyW x) (hr : TyOk f.f3) (hs : SmallL f.f2) :
    Calls Try.prog 43 #[.agg (scCs a W B), .agg (fnCs b f), .slice AA args.length ca] w fun e w' => ∃ A' c' B' d', e = .returned (.tuple #[tyV (callT f args) A' c', .slice B' (callL W B f args).length d']) ∧ (callT f args).f4.length ≤ c' ∧ Kd.C kTy w' A' (callT f args).f4.length (callT f args).f4 ∧ (callL W B f args).length ≤ d' ∧ RdW w' B' (callL W B f args) ∧ Below w.heap.size w w' :=
  (call_any a W B f b args AA ca w hW ok hF hA lA hp ha hr (grow_small _ hs.1 hs.2) (Nat.le_trans hs.1 (by decide))).mono fun e w' h => by
    obtain ⟨A', c', v, h1, h2, h3, h4, h5⟩ := h
    exact call_post ⟨A', c', v, h1, h2, Kd.F_now h3, h4, h5⟩
theorem call_showF (a : ScA) (W : List Ifc) (B : List Ty) (f : Fun) (b : FnA) (args : List Ty) (AA : Option Addr) (ca : Nat) (w : World) (hW : ScC a W B w) (ok : WOk W) (hF : FnC b f w) (hA : Kd.C kTy w AA args.length args) (lA : args.length ≤ ca)
    (hp : ∀ x ∈ f.f2, TyW x) (ha : ∀ x ∈ args, TyW x) (hr : TyOk f.f3) (hs : SmallL f.f2) :
    Calls Try.prog 43 #[.agg (scCs a W B), .agg (fnCs b f), .slice AA args.length ca] w fun e w' => ∃ A' c' B' d', e = .returned (.tuple #[tyV (callT f args) A' c', .slice B' (callL W B f args).length d']) ∧ (callT f args).f4.length ≤ c' ∧ Kd.F kTy w' (fun b => w.heap.size ≤ b) A' (callT f args).f4.length (callT f args).f4 ∧ (callL W B f args).length ≤ d' ∧ (RdW w' B' (callL W B f args) ∧ ∀ ad, B' = some ad → w.heap.size ≤ ad.block) ∧ Below w.heap.size w w' :=
  (call_any a W B f b args AA ca w hW ok hF hA lA hp ha hr (grow_small _ hs.1 hs.2) (Nat.le_trans hs.1 (by decide))).mono fun e w' h => by
    obtain ⟨A', c', v, rfl, h2, h3, h4, h5⟩ := h
    obtain ⟨B', d', rfl, h6, h7⟩ := C_same h4
    exact ⟨A', c', B', d', rfl, h2, h3, h6, ⟨h7, fun ad e => by subst e; exact own_base h4 ad.block (by simp [Value.ownBlock])⟩, h5⟩
theorem ref_call_show (a : ScA) (W : List Ifc) (B : List Ty) (f : Fun) (b : FnA) (args : List Ty) (AA : Option Addr) (ca : Nat) (w : World) (hW : ScC a W B w) (ok : WOk W) (hF : FnC b f w) (hA : Kd.C kTy w AA args.length args) (lA : args.length ≤ ca)
    (hp : ∀ x ∈ f.f2, TyW x) (hr : TyOk f.f3) (hs : SmallL f.f2) :
    Calls Try.prog 44 #[.agg (scCs a W B), .agg (fnCs b f), .slice AA args.length ca] w fun e w' => ∃ A' c' B' d', e = .returned (.tuple #[tyV (callT f args) A' c', .slice B' (callL W B f args).length d']) ∧ (callT f args).f4.length ≤ c' ∧ Kd.C kTy w' A' (callT f args).f4.length (callT f args).f4 ∧ (callL W B f args).length ≤ d' ∧ RdW w' B' (callL W B f args) ∧ Below w.heap.size w w' :=
  (ref_call_any a W B f b args AA ca w hW ok hF hA lA (fun x hx => (hp x hx).ok) hr (Nat.le_trans hs.1 (by decide))).mono fun e w' h => call_post h
end Go.Proofs.Ytbhagjhhgmmcgaa
