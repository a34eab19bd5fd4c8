/- What the laws over scopes share: lists of arguments in a row, contracts behind a world. -/
import Derived.Test.YtbhagjhhgmmcgaaTyP
import Derived.Test.YtbhagjhhgmmcgaaTyHB
import Derived.Test.YtbhagjhhgmmcgaaTyRE
namespace Go.Proofs.Ytbhagjhhgmmcgaa
open Go.RowKit PRef Go.Proofs.YtbhagjhhgmmcgaaW.PrintWords
set_option linter.unusedVariables false

theorem flat_pairs {α β : Type} (sz : Nat) : ∀ (ps : List (α × List β)), (∀ p ∈ ps, p.2.length = sz) → ∀ (j i : Nat) (q : α × List β), ps[j]? = some q → i < sz → (ps.flatMap (·.2))[j * sz + i]? = q.2[i]?
  | [], _, j, i, q, hq, hi => by simp at hq
  | a :: r, h, j, i, q, hq, hi => by
    have ha := h a List.mem_cons_self
    rw [List.flatMap_cons]
    cases j with
    | zero =>
      simp only [List.getElem?_cons_zero, Option.some.injEq] at hq
      subst hq
      rw [Nat.zero_mul, Nat.zero_add, List.getElem?_append_left (by rw [ha]; exact hi)]
    | succ j =>
      rw [List.getElem?_append_right (by rw [ha, Nat.add_mul]; omega), ha, show (j + 1) * sz + i - sz = j * sz + i by rw [Nat.add_mul]; omega]
      exact flat_pairs sz r (fun p hp => h p (List.mem_cons_of_mem _ hp)) j i q (by simpa using hq) hi
theorem C_list {α : Type} {d : Kd α} {T : TypeId} {fr : Nat × Nat} {W : World} {g : Nat} {cur : Array Value} (ps : List (α × List Value)) (hb : W.heap[g]? = some (.cells cur T fr)) (hK : ∀ p ∈ ps, d.K W p.1 p.2) (hcs : cur.toList = ps.flatMap (·.2)) (hm : ps.length ≤ 9223372036854775807) (l : List α) (hl : l = ps.map (·.1)) : Kd.C d W (some ⟨g, 0, none⟩) l.length l := by
  subst hl
  refine ⟨rfl, by rw [List.length_map]; exact hm, fun _ => ⟨_, rfl, fun j p hj => ?_⟩⟩
  rw [List.getElem?_map] at hj
  obtain ⟨q, hq, rfl⟩ := Option.map_eq_some_iff.1 hj
  have hk := hK q (List.mem_of_getElem? hq)
  refine ⟨q.2, d.K_len hk, hk, fun i u hu => ?_⟩
  rw [Addr.add_lit, Nat.zero_add, blk_cell hb, ← Array.getElem?_toList, hcs, flat_pairs d.sz ps (fun p hp => d.K_len (hK p hp)) j i q hq (by rw [← d.K_len hk]; exact (List.getElem?_eq_some_iff.1 hu).1)]
  exact hu
theorem ty_K {W : World} {t : Ty} {A : Option Addr} {c : Nat} (hA : Kd.C kTy W A t.f4.length t.f4) (hc : t.f4.length ≤ c) : kTy.K W t [.int .i64 t.f0, .string t.f1, .string t.f2, .int .i64 t.f3, .slice A t.f4.length c] := k29_mk W t hc hA
theorem C_ty1 {W : World} {g : Nat} {t : Ty} {A : Option Addr} {c : Nat} (hb : W.heap[g]? = some (.cells #[.int .i64 t.f0, .string t.f1, .string t.f2, .int .i64 t.f3, .slice A t.f4.length c] 29 (0, 0))) (hA : Kd.C kTy W A t.f4.length t.f4) (hc : t.f4.length ≤ c) : Kd.C kTy W (some ⟨g, 0, none⟩) [t].length [t] :=
  C_list (d := kTy) [(t, [.int .i64 t.f0, .string t.f1, .string t.f2, .int .i64 t.f3, .slice A t.f4.length c])] hb (by intro p hp; simp only [List.mem_singleton] at hp; subst hp; exact ty_K hA hc) rfl (by simp) _ rfl
theorem C_ty2 {W : World} {g : Nat} {t u : Ty} {A B : Option Addr} {c d : Nat} (hb : W.heap[g]? = some (.cells #[.int .i64 t.f0, .string t.f1, .string t.f2, .int .i64 t.f3, .slice A t.f4.length c, .int .i64 u.f0, .string u.f1, .string u.f2, .int .i64 u.f3, .slice B u.f4.length d] 29 (0, 0))) (hA : Kd.C kTy W A t.f4.length t.f4) (hc : t.f4.length ≤ c) (hB : Kd.C kTy W B u.f4.length u.f4) (hd : u.f4.length ≤ d) : Kd.C kTy W (some ⟨g, 0, none⟩) [t, u].length [t, u] :=
  C_list (d := kTy) [(t, [.int .i64 t.f0, .string t.f1, .string t.f2, .int .i64 t.f3, .slice A t.f4.length c]), (u, [.int .i64 u.f0, .string u.f1, .string u.f2, .int .i64 u.f3, .slice B u.f4.length d])] hb (by intro p hp; simp only [List.mem_cons, List.not_mem_nil, or_false] at hp; rcases hp with rfl | rfl <;> (first | exact ty_K hA hc | exact ty_K hB hd)) rfl (by simp) _ rfl
theorem C_ty3 {W : World} {g : Nat} {t u v : Ty} {A B C : Option Addr} {c d e : Nat} (hb : W.heap[g]? = some (.cells #[.int .i64 t.f0, .string t.f1, .string t.f2, .int .i64 t.f3, .slice A t.f4.length c, .int .i64 u.f0, .string u.f1, .string u.f2, .int .i64 u.f3, .slice B u.f4.length d, .int .i64 v.f0, .string v.f1, .string v.f2, .int .i64 v.f3, .slice C v.f4.length e] 29 (0, 0))) (hA : Kd.C kTy W A t.f4.length t.f4) (hc : t.f4.length ≤ c) (hB : Kd.C kTy W B u.f4.length u.f4) (hd : u.f4.length ≤ d) (hC : Kd.C kTy W C v.f4.length v.f4) (he : v.f4.length ≤ e) : Kd.C kTy W (some ⟨g, 0, none⟩) [t, u, v].length [t, u, v] :=
  C_list (d := kTy) [(t, [.int .i64 t.f0, .string t.f1, .string t.f2, .int .i64 t.f3, .slice A t.f4.length c]), (u, [.int .i64 u.f0, .string u.f1, .string u.f2, .int .i64 u.f3, .slice B u.f4.length d]), (v, [.int .i64 v.f0, .string v.f1, .string v.f2, .int .i64 v.f3, .slice C v.f4.length e])] hb (by intro p hp; simp only [List.mem_cons, List.not_mem_nil, or_false] at hp; rcases hp with rfl | rfl | rfl <;> (first | exact ty_K hA hc | exact ty_K hB hd | exact ty_K hC he)) rfl (by simp) _ rfl

theorem cl {w0 W w' : World} (hb : Below w0.heap.size w0 W) (h : Below W.heap.size W w') : Below w0.heap.size w0 w' := bel_trans hb h
end Go.Proofs.Ytbhagjhhgmmcgaa
