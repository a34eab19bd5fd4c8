/- What the laws over scopes share: lists of arguments in a row, contracts behind a world. -/
import Derived.Test.YtbhagjhhgmmcgaaTyT
namespace Go.Proofs.Ytbhagjhhgmmcgaa
open Go.RowKit PRef Go.Proofs.YtbhagjhhgmmcgaaW.PrintWords
set_option linter.unusedVariables false

/-- A row of one element, in a block of its own. -/
theorem C_one {α : Type} {d : Kd α} {T : TypeId} {W : World} {g : Nat} {cur : Array Value} (x : α) (cs : List Value) (h : W.heap[g]? = some (.cells cur T (0, 0))) (hK : d.K W x cs) (hl : cs.length = d.sz) (he : cur = cs.toArray) : Kd.C d W (some ⟨g, 0, none⟩) 1 [x] := by
  subst he
  refine ⟨rfl, by decide, fun _ => ⟨_, rfl, fun j p hj => ?_⟩⟩
  rcases j with _ | j
  · obtain rfl : x = p := by simpa using hj
    refine ⟨cs, hl, hK, fun i u hu => ?_⟩
    rw [Addr.add_lit, Nat.zero_mul, Nat.zero_add, Nat.zero_add, blk_cell h]
    simpa using hu
  · simp at hj
theorem blk_newN (W : World) (o : Obj) (n : Nat) (h : W.heap.size = n) : (W.alloc o).heap[n]? = some o := by subst h; exact blk_new W o
theorem blk_drew' {W : World} {b : Nat} {o : Obj} (h : W.heap[b]? = some o) : W.drew.heap[b]? = some o := h
theorem row5 {W : World} {b : Nat} {T : TypeId} {x0 x1 x2 x3 x4 : Value} (v0 v1 v2 v3 v4 : Value) (h : W.heap[b]? = some (.cells #[x0, x1, x2, x3, x4] T (0, 0))) : (((((W.setCell ⟨b, 0, none⟩ v0).setCell ⟨b, 1, none⟩ v1).setCell ⟨b, 2, none⟩ v2).setCell ⟨b, 3, none⟩ v3).setCell ⟨b, 4, none⟩ v4).heap[b]? = some (.cells #[v0, v1, v2, v3, v4] T (0, 0)) :=
  (blk_set (blk_set (blk_set (blk_set (blk_set h 0 v0) 1 v1) 2 v2) 3 v3) 4 v4).trans (by simp)
theorem keep5 {W : World} {b c : Nat} {o : Obj} (v0 v1 v2 v3 v4 : Value) (h : W.heap[c]? = some o) (hn : c ≠ b) : (((((W.setCell ⟨b, 0, none⟩ v0).setCell ⟨b, 1, none⟩ v1).setCell ⟨b, 2, none⟩ v2).setCell ⟨b, 3, none⟩ v3).setCell ⟨b, 4, none⟩ v4).heap[c]? = some o := by
  rw [blk_far _ _ _ _ _ hn, blk_far _ _ _ _ _ hn, blk_far _ _ _ _ _ hn, blk_far _ _ _ _ _ hn, blk_far _ _ _ _ _ hn]
  exact h
def numT : Ty := ⟨1, ⟨#[]⟩, ⟨#[]⟩, 0, []⟩
def boolT : Ty := ⟨2, ⟨#[]⟩, ⟨#[]⟩, 0, []⟩
def noneT : Ty := ⟨7, ⟨#[]⟩, ⟨#[]⟩, 0, []⟩
def namedT (p n : ByteArray) : Ty := ⟨4, p, n, 0, []⟩
theorem C_nil' {α : Type} (d : Kd α) (W : World) (A : Option Addr) : Kd.C d W A ([] : List α).length [] := ⟨rfl, by simp, fun h => by simp at h⟩

theorem flat_pairs {α β : Type} (sz : Nat) : ∀ (ps : List (α × List β)), (∀ p ∈ ps, p.2.length = sz) → ∀ (j i : Nat) (q : α × List β), ps[j]? = some q → i < sz → (ps.flatMap (·.2))[j * sz + i]? = q.2[i]?
  | [], _, j, i, q, hq, hi => by simp at hq
  | a :: r, h, j, i, q, hq, hi => by
    have ha := h a List.mem_cons_self
    rw [List.flatMap_cons]
    cases j with
    | zero =>
      simp only [List.getElem?_cons_zero, Option.some.injEq] at hq
      subst hq
      rw [Nat.zero_mul, Nat.zero_add, List.getElem?_append_left (by rw [ha]; exact hi)]
    | succ j =>
      rw [List.getElem?_append_right (by rw [ha, Nat.add_mul]; omega), ha, show (j + 1) * sz + i - sz = j * sz + i by rw [Nat.add_mul]; omega]
      exact flat_pairs sz r (fun p hp => h p (List.mem_cons_of_mem _ hp)) j i q (by simpa using hq) hi
theorem C_list {α : Type} {d : Kd α} {T : TypeId} {fr : Nat × Nat} {W : World} {g : Nat} {cur : Array Value} (ps : List (α × List Value)) (hb : W.heap[g]? = some (.cells cur T fr)) (hK : ∀ p ∈ ps, d.K W p.1 p.2) (hcs : cur.toList = ps.flatMap (·.2)) (hm : ps.length ≤ 9223372036854775807) (l : List α) (hl : l = ps.map (·.1)) : Kd.C d W (some ⟨g, 0, none⟩) l.length l := by
  subst hl
  refine ⟨rfl, by rw [List.length_map]; exact hm, fun _ => ⟨_, rfl, fun j p hj => ?_⟩⟩
  rw [List.getElem?_map] at hj
  obtain ⟨q, hq, rfl⟩ := Option.map_eq_some_iff.1 hj
  have hk := hK q (List.mem_of_getElem? hq)
  refine ⟨q.2, d.K_len hk, hk, fun i u hu => ?_⟩
  rw [Addr.add_lit, Nat.zero_add, blk_cell hb, ← Array.getElem?_toList, hcs, flat_pairs d.sz ps (fun p hp => d.K_len (hK p hp)) j i q hq (by rw [← d.K_len hk]; exact (List.getElem?_eq_some_iff.1 hu).1)]
  exact hu
theorem ty_K {W : World} {t : Ty} {A : Option Addr} {c : Nat} (hA : Kd.C kTy W A t.f4.length t.f4) (hc : t.f4.length ≤ c) : kTy.K W t [.int .i64 t.f0, .string t.f1, .string t.f2, .int .i64 t.f3, .slice A t.f4.length c] := k29_mk W t hc hA
theorem C_ty1 {W : World} {g : Nat} {t : Ty} {A : Option Addr} {c : Nat} (hb : W.heap[g]? = some (.cells #[.int .i64 t.f0, .string t.f1, .string t.f2, .int .i64 t.f3, .slice A t.f4.length c] 29 (0, 0))) (hA : Kd.C kTy W A t.f4.length t.f4) (hc : t.f4.length ≤ c) : Kd.C kTy W (some ⟨g, 0, none⟩) [t].length [t] :=
  C_list (d := kTy) [(t, [.int .i64 t.f0, .string t.f1, .string t.f2, .int .i64 t.f3, .slice A t.f4.length c])] hb (by intro p hp; simp only [List.mem_singleton] at hp; subst hp; exact ty_K hA hc) rfl (by simp) _ rfl
theorem C_ty2 {W : World} {g : Nat} {t u : Ty} {A B : Option Addr} {c d : Nat} (hb : W.heap[g]? = some (.cells #[.int .i64 t.f0, .string t.f1, .string t.f2, .int .i64 t.f3, .slice A t.f4.length c, .int .i64 u.f0, .string u.f1, .string u.f2, .int .i64 u.f3, .slice B u.f4.length d] 29 (0, 0))) (hA : Kd.C kTy W A t.f4.length t.f4) (hc : t.f4.length ≤ c) (hB : Kd.C kTy W B u.f4.length u.f4) (hd : u.f4.length ≤ d) : Kd.C kTy W (some ⟨g, 0, none⟩) [t, u].length [t, u] :=
  C_list (d := kTy) [(t, [.int .i64 t.f0, .string t.f1, .string t.f2, .int .i64 t.f3, .slice A t.f4.length c]), (u, [.int .i64 u.f0, .string u.f1, .string u.f2, .int .i64 u.f3, .slice B u.f4.length d])] hb (by intro p hp; simp only [List.mem_cons, List.not_mem_nil, or_false] at hp; rcases hp with rfl | rfl <;> (first | exact ty_K hA hc | exact ty_K hB hd)) rfl (by simp) _ rfl
theorem C_ty3 {W : World} {g : Nat} {t u v : Ty} {A B C : Option Addr} {c d e : Nat} (hb : W.heap[g]? = some (.cells #[.int .i64 t.f0, .string t.f1, .string t.f2, .int .i64 t.f3, .slice A t.f4.length c, .int .i64 u.f0, .string u.f1, .string u.f2, .int .i64 u.f3, .slice B u.f4.length d, .int .i64 v.f0, .string v.f1, .string v.f2, .int .i64 v.f3, .slice C v.f4.length e] 29 (0, 0))) (hA : Kd.C kTy W A t.f4.length t.f4) (hc : t.f4.length ≤ c) (hB : Kd.C kTy W B u.f4.length u.f4) (hd : u.f4.length ≤ d) (hC : Kd.C kTy W C v.f4.length v.f4) (he : v.f4.length ≤ e) : Kd.C kTy W (some ⟨g, 0, none⟩) [t, u, v].length [t, u, v] :=
  C_list (d := kTy) [(t, [.int .i64 t.f0, .string t.f1, .string t.f2, .int .i64 t.f3, .slice A t.f4.length c]), (u, [.int .i64 u.f0, .string u.f1, .string u.f2, .int .i64 u.f3, .slice B u.f4.length d]), (v, [.int .i64 v.f0, .string v.f1, .string v.f2, .int .i64 v.f3, .slice C v.f4.length e])] hb (by intro p hp; simp only [List.mem_cons, List.not_mem_nil, or_false] at hp; rcases hp with rfl | rfl | rfl <;> (first | exact ty_K hA hc | exact ty_K hB hd | exact ty_K hC he)) rfl (by simp) _ rfl

theorem cl {w0 W w' : World} (hb : Below w0.heap.size w0 W) (h : Below W.heap.size W w') : Below w0.heap.size w0 w' := bel_trans hb h
end Go.Proofs.Ytbhagjhhgmmcgaa
