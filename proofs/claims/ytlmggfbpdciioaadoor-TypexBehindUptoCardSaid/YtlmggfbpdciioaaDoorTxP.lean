/- typex: what a type is, plainly; the end of a function that hands back a type, a place and what is wrong. -/
import Derived.Test.YtlmggfbpdciioaaDoorLxR
import Derived.Test.YtlmggfbpdciioaaDoorPRefx7
namespace Go.Proofs.YtlmggfbpdciioaaDoor
open Go.RowKit PRef Go.Proofs.YtlmggfbpdciioaaDoorW.PrintWords
set_option linter.unusedVariables false
set_option linter.unusedSimpArgs false

theorem ba_ext {x y : ByteArray} (h : x.data.toList = y.data.toList) : x = y := by
  apply ByteArray.ext
  exact Array.toList_inj.1 h
theorem wrap_small {x : Int} (h0 : -9223372036854775808 ≤ x) (h1 : x ≤ 9223372036854775807) : wrap64 x = x := by unfold wrap64; omega
def endP (L : List S31) : Int := if 0 < L.length then (rd_T31 L ((L.length : Int) - 1)).f2 else 0
/-- The token at a place. -/
def tokP (L : List S31) (at_ : Int) : S31 := if 0 ≤ at_ ∧ at_ < L.length then rd_T31 L at_ else ⟨0, endP L, endP L, ⟨#[]⟩⟩
def tokV (x : S31) : Value := .agg #[.int .i64 x.f0, .int .i64 x.f1, .int .i64 x.f2, .string x.f3]
/-- Is it that symbol? -/
def isP (t : S31) (c : ByteArray) : Bool := decide (t.f0 = 4 ∧ t.f3 = c)
/-- type, place behind, where and what is wrong -/
abbrev TyR := S38 × Int × Int × Int
def failP (t : S31) (c : Int) : TyR := (z38, 0, t.f1, c)
def bInt : ByteArray := ⟨#[105, 110, 116]⟩
def bBool : ByteArray := ⟨#[98, 111, 111, 108]⟩
def bText : ByteArray := ⟨#[116, 101, 120, 116]⟩
def bDot : ByteArray := ⟨#[46]⟩
def bOpen : ByteArray := ⟨#[91]⟩
def bShut : ByteArray := ⟨#[93]⟩
/-- What is no list. -/
def leafP (L : List S31) (a : Int) : TyR :=
  if (tokP L a).f0 = 5 then
    (if (tokP L a).f3 = bInt then (⟨1, (tokP L a).f1, ⟨#[]⟩, ⟨#[]⟩, []⟩, a + 1, 0, 0)
     else if (tokP L a).f3 = bBool then (⟨2, (tokP L a).f1, ⟨#[]⟩, ⟨#[]⟩, []⟩, a + 1, 0, 0)
     else if (tokP L a).f3 = bText then (⟨3, (tokP L a).f1, ⟨#[]⟩, ⟨#[]⟩, []⟩, a + 1, 0, 0)
     else failP (tokP L a) 5)
  else if (tokP L a).f0 = 1 then
    (if isP (tokP L (a + 1)) bDot then
      (if (tokP L (a + 2)).f0 = 1 then (⟨4, (tokP L a).f1, (tokP L a).f3, (tokP L (a + 2)).f3, []⟩, a + 3, 0, 0) else failP (tokP L (a + 2)) 5)
     else (⟨4, (tokP L a).f1, ⟨#[]⟩, (tokP L a).f3, []⟩, a + 1, 0, 0))
  else failP (tokP L a) 5
/-- A list of it. -/
def wrapR (f1 : Int) (r : TyR) : TyR := if r.2.2.2 = 0 then (⟨5, f1, ⟨#[]⟩, ⟨#[]⟩, [r.1]⟩, r.2.1, 0, 0) else (z38, 0, r.2.2.1, r.2.2.2)
/-- Within so many lists at most. -/
def deepP (L : List S31) : Nat → Int → TyR
  | 0, a => if isP (tokP L a) bOpen then failP (tokP L a) 6 else leafP L a
  | d + 1, a => if isP (tokP L a) bOpen then (if isP (tokP L (a + 1)) bShut then wrapR (tokP L a).f1 (deepP L d (a + 2)) else failP (tokP L (a + 1)) 5) else leafP L a
def parseP (L : List S31) (a : Int) : TyR := if a < 0 ∨ (L.length : Int) < a then failP (tokP L a) 5 else deepP L 30 a

/-- What a function hands back: that. -/
def OutR (r : TyR) (w : World) (e : Ending) (W : World) : Prop :=
  ∃ A c, e = .returned (.tuple #[.agg #[.int .i64 r.1.f0, .int .i64 r.1.f1, .string r.1.f2, .string r.1.f3, .slice A r.1.f4.length c], .int .i64 r.2.1, .agg #[.int .i64 r.2.2.1, .int .i64 r.2.2.2]]) ∧ r.1.f4.length ≤ c ∧ Kd.F k38 W (fun k => w.heap.size ≤ k) A r.1.f4.length r.1.f4 ∧ Below w.heap.size w W

theorem results3 {fn : Func} {p q r : Tmp} {ta tb : TypeId} (h : fn.results = #[.cell p ta, .tmp q, .cell r tb]) (tmps : Array Value) (P : Program) (w : World) :
    (results fn tmps).run P w =
      ((asAddr (tmps.getD p undef)).run P w).andThen fun a w₁ => ((loadVar ta a).run P w₁).andThen fun v w₂ => ((asAddr (tmps.getD r undef)).run P w₂).andThen fun b w₃ => ((loadVar tb b).run P w₃).andThen fun u w₄ => .ok (.tuple #[v, tmps.getD q undef, u]) w₄ := by
  simp only [results, h]
  simp [Sem.run_bind, Result.andThen]
theorem size38 : (Tryd.prog.info? 38).map (·.size) = some 5 := by kernel_rfl
theorem size25 : (Tryd.prog.info? 25).map (·.size) = some 2 := by kernel_rfl
theorem ty_end {fn : Func} {p q r : Tmp} (hr : fn.results = #[.cell p 38, .tmp q, .cell r 25]) {R : Ending → World → Prop} {a : Act} {W : World} {h g : Nat} {v0 v1 v2 v3 v4 d0 d1 x : Value}
    (hR : W.heap[h]? = some (.cells #[v0, v1, v2, v3, v4] 38 (0, 0))) (hS : W.heap[g]? = some (.cells #[d0, d1] 25 (0, 0)))
    (hp : a.tmps.getD p undef = .pointer (some ⟨h, 0, none⟩)) (hg : a.tmps.getD r undef = .pointer (some ⟨g, 0, none⟩)) (hu : a.tmps.getD q undef = x) (hd : a.defers = [])
    (hQ : R (.returned (.tuple #[.agg #[v0, v1, v2, v3, v4], x, .agg #[d0, d1]])) W) : bodyPost Tryd.prog fn R .ret a W := by
  refine bodyPost_ret ((results3 (p := p) (q := q) (r := r) hr a.tmps Tryd.prog _).trans ?_) hd hQ
  rw [hp, hg, hu]
  have h3 := run_loadVar_row (P := Tryd.prog) _ h 38 38 #[v0, v1, v2, v3, v4] (0, 0) _ hR Tryd.underlying38 rfl (size38.trans rfl)
  have h4 := run_loadVar_row (P := Tryd.prog) _ g 25 25 #[d0, d1] (0, 0) _ hS Tryd.underlying25 rfl (size25.trans rfl)
  simp only [asAddr, Sem.run_pure, Result.andThen_ok, h3, h4]
theorem k38_nil (W : World) (A : Option Addr) : Kd.C k38 W A 0 [] := ⟨rfl, by simp, fun h => by simp at h⟩
end Go.Proofs.YtlmggfbpdciioaaDoor
