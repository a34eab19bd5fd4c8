/- The document's printed functions say what the plain laws of graphs say. The document's Ready, Order, Users, imports (printed) say what the plain laws of graphs say. -/
import Derived.Test.YtpdilplgdbcjpaaPRefx4
import Derived.Test.YtpdilplgdbcjpaaPRefx3
import Derived.Test.YtpdilplgdbcjpaaGrD
namespace Go.Proofs.Ytpdilplgdbcjpaa
open Go.RowKit PRef Go.Proofs.YtpdilplgdbcjpaaW.PrintWords
set_option linter.unusedVariables false
abbrev GStr := List UInt8

/-- A name as it lies in a cell. -/
def ba (x : GStr) : ByteArray := ⟨x.toArray⟩
theorem ba_toList (x : GStr) : (ba x).data.toList = x := by simp [ba]
theorem ba_tl (x : GStr) : (ba x).toList = x := by rw [ByteArray.toList_eq, ba_toList]
theorem ba_of (s : ByteArray) : ba s.data.toList = s := by cases s; simp [ba]
theorem ba_inj {x y : GStr} (h : ba x = ba y) : x = y := by have := congrArg (fun s => s.data.toList) h; simpa [ba_toList] using this
theorem map_ba_of (l : List ByteArray) : (l.map (fun s => s.data.toList)).map ba = l := by
  rw [List.map_map]
  conv => rhs; rw [← List.map_id l]
  exact List.map_congr_left fun s _ => ba_of s
theorem bytesLess_lt : ∀ (x y : List UInt8), (Op.bytesLess x y = true) ↔ x < y
  | x, [] => by cases x <;> simp [Op.bytesLess]
  | [], b :: y => by simp [Op.bytesLess]
  | a :: x, b :: y => by
    have := bytesLess_lt x y
    simp only [Op.bytesLess, Bool.or_eq_true, decide_eq_true_eq, Bool.and_eq_true, beq_iff_eq, List.cons_lt_cons_iff, this]
/-- A node as it lies in cells. -/
def ofNd (d : Gr.Nd) : S36 := ⟨ba d.name, d.imps.map ba⟩
def toNd (x : S36) : Gr.Nd := ⟨x.f0.data.toList, x.f1.map (fun s => s.data.toList)⟩
theorem of_to (x : S36) : ofNd (toNd x) = x := by cases x; simp only [ofNd, toNd, ba_of, map_ba_of]
theorem map_of_to (l : List S36) : (l.map toNd).map ofNd = l := by
  rw [List.map_map]
  conv => rhs; rw [← List.map_id l]
  exact List.map_congr_left fun s _ => of_to s

abbrev big : Nat := 1099511627776
theorem wr1 {i : Nat} (h : i ≤ 4611686018427387904) : wrap64 ((i : Int) + 1) = ((i + 1 : Nat) : Int) := by unfold wrap64; omega
theorem rdS {L : List GStr} {i : Nat} {x : GStr} (h : L[i]? = some x) : rdOf ByteArray.empty (L.map ba) (i : Int) = ba x := by
  unfold rdOf
  rw [Int.toNat_natCast, List.getD_eq_getElem?_getD, List.getElem?_map, h]
  rfl
theorem rdN {g : List Gr.Nd} {i : Nat} {d : Gr.Nd} (h : g[i]? = some d) : rd_T36 (g.map ofNd) (i : Int) = ofNd d := by
  unfold rd_T36
  rw [Int.toNat_natCast, List.getD_eq_getElem?_getD, List.getElem?_map, h]
  rfl
theorem lt_len {α : Type} {l : List α} {i : Nat} {x : α} (h : l[i]? = some x) : i < l.length := (List.getElem?_eq_some_iff.1 h).1
theorem drop_at {α : Type} {l : List α} {i : Nat} {x : α} (h : l[i]? = some x) : l.drop i = x :: l.drop (i + 1) := by
  obtain ⟨h1, rfl⟩ := List.getElem?_eq_some_iff.1 h
  exact List.drop_eq_getElem_cons h1
theorem take_at {α : Type} {l : List α} {i : Nat} {x : α} (h : l[i]? = some x) : l.take (i + 1) = l.take i ++ [x] := by rw [List.take_add_one, h]; rfl
theorem get_of {α : Type} {l : List α} {i d : Nat} (h : i + (d + 1) = l.length) : ∃ x, l[i]? = some x := ⟨_, List.getElem?_eq_getElem (by omega)⟩

theorem has_l0 (L : List GStr) (s : GStr) (hL : L.length ≤ big) : ∀ (d i : Nat), i + d = L.length → Ev (fun k => quoinref08_Has.l0 k (L.map ba) (ba s) (i : Int)) (decide (s ∈ L.drop i))
  | 0, i, h => by
    have e : decide (s ∈ L.drop i) = false := by rw [List.drop_eq_nil_of_le (by omega)]; simp
    rw [e]
    exact Ev.step (f := fun _ => some false) (fun k => by rw [quoinref08_Has.l0, if_neg (by simp; omega)]) (Ev.now false)
  | d + 1, i, h => by
    obtain ⟨x, hx⟩ := get_of h
    have hi := lt_len hx
    rw [drop_at hx]
    by_cases e : x = s
    · rw [decide_eq_true (by rw [e]; exact List.mem_cons_self)]
      exact Ev.step (f := fun _ => some true) (fun k => by rw [quoinref08_Has.l0, if_pos (by simp; omega), if_pos (by omega), rdS hx, ba_tl, ba_tl, if_pos e]) (Ev.now true)
    · have e2 : decide (s ∈ x :: L.drop (i + 1)) = decide (s ∈ L.drop (i + 1)) := by simp [Ne.symm e]
      rw [e2]
      exact Ev.step (f := fun k => quoinref08_Has.l0 k (L.map ba) (ba s) ((i + 1 : Nat) : Int)) (fun k => by rw [quoinref08_Has.l0, if_pos (by simp; omega), if_pos (by omega), rdS hx, ba_tl, ba_tl, if_neg e, wr1 (by unfold big at hL; omega)]) (has_l0 L s hL d (i + 1) (by omega))
theorem has_f (L : List GStr) (s : GStr) (hL : L.length ≤ big) : Ev (fun k => quoinref08_Has.f k (L.map ba) (ba s)) (decide (s ∈ L)) := has_l0 L s hL L.length 0 (by omega)

theorem place_l0 (L : List GStr) (s : GStr) (hL : L.length ≤ big) : ∀ (d i : Nat), i + d = L.length → Ev (fun k => quoinlaw08_place.l0 k (L.map ba) (ba s) (i : Int)) (Gr.placeF s (L.drop i) i)
  | 0, i, h => by
    rw [List.drop_eq_nil_of_le (by omega), Gr.placeF]
    exact Ev.step (f := fun _ => some (-1)) (fun k => by rw [quoinlaw08_place.l0, if_neg (by simp; omega)]) (Ev.now _)
  | d + 1, i, h => by
    obtain ⟨x, hx⟩ := get_of h
    have hi := lt_len hx
    rw [drop_at hx, Gr.placeF]
    by_cases e : x = s
    · rw [if_pos e]
      exact Ev.step (f := fun _ => some (i : Int)) (fun k => by rw [quoinlaw08_place.l0, if_pos (by simp; omega), if_pos (by omega), rdS hx, ba_tl, ba_tl, if_pos e]) (Ev.now _)
    · rw [if_neg e]
      exact Ev.step (f := fun k => quoinlaw08_place.l0 k (L.map ba) (ba s) ((i + 1 : Nat) : Int)) (fun k => by rw [quoinlaw08_place.l0, if_pos (by simp; omega), if_pos (by omega), rdS hx, ba_tl, ba_tl, if_neg e, wr1 (by unfold big at hL; omega)]) (place_l0 L s hL d (i + 1) (by omega))
theorem place_f (L : List GStr) (s : GStr) (hL : L.length ≤ big) : Ev (fun k => quoinlaw08_place.f k (L.map ba) (ba s)) (Gr.placeP L s) := place_l0 L s hL L.length 0 (by omega)

theorem same_l0 (A B : List GStr) (hl : A.length = B.length) (hL : A.length ≤ big) : ∀ (d i : Nat), i + d = A.length → Ev (fun k => quoinref08_Same.l0 k (A.map ba) (B.map ba) (i : Int)) (decide (A.drop i = B.drop i))
  | 0, i, h => by
    rw [decide_eq_true (by rw [List.drop_eq_nil_of_le (by omega), List.drop_eq_nil_of_le (by omega)])]
    exact Ev.step (f := fun _ => some true) (fun k => by rw [quoinref08_Same.l0, if_neg (by simp; omega)]) (Ev.now _)
  | d + 1, i, h => by
    obtain ⟨x, hx⟩ := get_of h
    obtain ⟨y, hy⟩ : ∃ y, B[i]? = some y := ⟨_, List.getElem?_eq_getElem (by omega)⟩
    have hi := lt_len hx
    rw [drop_at hx, drop_at hy]
    by_cases e : x = y
    · have e2 : decide (x :: A.drop (i + 1) = y :: B.drop (i + 1)) = decide (A.drop (i + 1) = B.drop (i + 1)) := by simp [e]
      rw [e2]
      exact Ev.step (f := fun k => quoinref08_Same.l0 k (A.map ba) (B.map ba) ((i + 1 : Nat) : Int)) (fun k => by rw [quoinref08_Same.l0, if_pos (by simp; omega), if_pos (by omega), if_pos (by simp; omega), rdS hx, rdS hy, ba_tl, ba_tl, if_pos e, wr1 (by unfold big at hL; omega)]) (same_l0 A B hl hL d (i + 1) (by omega))
    · rw [decide_eq_false (by simp [e])]
      exact Ev.step (f := fun _ => some false) (fun k => by rw [quoinref08_Same.l0, if_pos (by simp; omega), if_pos (by omega), if_pos (by simp; omega), rdS hx, rdS hy, ba_tl, ba_tl, if_neg e]) (Ev.now _)
theorem same_f (A B : List GStr) (hL : A.length ≤ big) : Ev (fun k => quoinref08_Same.f k (A.map ba) (B.map ba)) (decide (A = B)) := by
  by_cases hl : A.length = B.length
  · exact Ev.congr (f := fun k => quoinref08_Same.l0 k (A.map ba) (B.map ba) 0) (fun k => by simp only [quoinref08_Same.f]; rw [if_pos (by simp; omega)]) (same_l0 A B hl hL A.length 0 (by omega))
  · rw [decide_eq_false (fun e => hl (by rw [e]))]
    exact Ev.congr (f := fun _ => some false) (fun k => by simp only [quoinref08_Same.f]; rw [if_neg (by simp; omega)]) (Ev.now _)

theorem names_l0 (g : List Gr.Nd) (hL : g.length ≤ big) : ∀ (d i : Nat), i + d = g.length → Ev (fun k => quoinref08_Names.l0 k (g.map ofNd) ((Gr.names (g.take i)).map ba) (i : Int)) ((Gr.names g).map ba)
  | 0, i, h => by
    rw [List.take_of_length_le (by omega)]
    exact Ev.step (f := fun _ => some ((Gr.names g).map ba)) (fun k => by rw [quoinref08_Names.l0, if_neg (by simp; omega)]) (Ev.now _)
  | d + 1, i, h => by
    obtain ⟨x, hx⟩ := get_of h
    have hi := lt_len hx
    have e : (Gr.names (g.take i)).map ba ++ [ba x.name] = (Gr.names (g.take (i + 1))).map ba := by rw [take_at hx]; simp [Gr.names]
    exact Ev.step (f := fun k => quoinref08_Names.l0 k (g.map ofNd) ((Gr.names (g.take (i + 1))).map ba) ((i + 1 : Nat) : Int)) (fun k => by rw [quoinref08_Names.l0, if_pos (by simp; omega), if_pos (by omega), if_pos (by simp [Gr.names]; unfold big at hL; omega), rdN hx, wr1 (by unfold big at hL; omega), ← e]; rfl) (names_l0 g hL d (i + 1) (by omega))
theorem names_f (g : List Gr.Nd) (hL : g.length ≤ big) : Ev (fun k => quoinref08_Names.f k (g.map ofNd)) ((Gr.names g).map ba) := names_l0 g hL g.length 0 (by omega)

theorem nodes_take {g : List Gr.Nd} {i : Nat} {x : Gr.Nd} (hx : g[i]? = some x) : Gr.nodes (g.take (i + 1)) = if x.name ∈ Gr.names (Gr.nodes (g.take i)) then Gr.nodes (g.take i) else Gr.nodes (g.take i) ++ [x] := by rw [take_at hx, Gr.nodes_snoc]
theorem nodesF_len : ∀ (l acc : List Gr.Nd), (Gr.nodesF acc l).length ≤ acc.length + l.length
  | [], acc => by simp [Gr.nodesF]
  | n :: r, acc => by
    rw [Gr.nodesF]
    have := nodesF_len r (if n.name ∈ acc.map (·.name) then acc else acc ++ [n])
    split at this <;> simp at this ⊢ <;> split <;> simp_all <;> omega
theorem nodes_len (l : List Gr.Nd) : (Gr.nodes l).length ≤ l.length := by have := nodesF_len l []; simpa [Gr.nodes] using this
theorem names_len (l : List Gr.Nd) : (Gr.names l).length = l.length := by simp [Gr.names]
theorem nodes_l0 (g : List Gr.Nd) (hL : g.length ≤ big) : ∀ (d i : Nat), i + d = g.length → Ev (fun k => quoinref08_Nodes.l0 k (g.map ofNd) ((Gr.nodes (g.take i)).map ofNd) ((Gr.names (Gr.nodes (g.take i))).map ba) (i : Int)) ((Gr.nodes g).map ofNd)
  | 0, i, h => by
    rw [List.take_of_length_le (by omega)]
    exact Ev.step (f := fun _ => some ((Gr.nodes g).map ofNd)) (fun k => by rw [quoinref08_Nodes.l0, if_neg (by simp; omega)]) (Ev.now _)
  | d + 1, i, h => by
    obtain ⟨x, hx⟩ := get_of h
    have hi := lt_len hx
    have ih := nodes_l0 g hL d (i + 1) (by omega)
    have hlen := nodes_len (g.take i)
    rw [List.length_take] at hlen
    unfold big at hL
    rw [nodes_take hx] at ih
    have hh := has_f (Gr.names (Gr.nodes (g.take i))) x.name (by rw [names_len]; unfold big; omega)
    refine Ev.step (f := fun k => (quoinref08_Has.f k ((Gr.names (Gr.nodes (g.take i))).map ba) (ba x.name)).bind fun t => if t = true then quoinref08_Nodes.l0 k (g.map ofNd) ((Gr.nodes (g.take i)).map ofNd) ((Gr.names (Gr.nodes (g.take i))).map ba) ((i + 1 : Nat) : Int) else
        quoinref08_Nodes.l0 k (g.map ofNd) ((Gr.nodes (g.take i)).map ofNd ++ [ofNd x]) ((Gr.names (Gr.nodes (g.take i))).map ba ++ [ba x.name]) ((i + 1 : Nat) : Int))
      (fun k => by rw [quoinref08_Nodes.l0, if_pos (by simp; omega), if_pos (by omega), rdN hx, wr1 (by omega), if_pos (by simp [Gr.names]; omega), if_pos (by simp; omega)]; rfl) (Ev.bind hh ?_)
    by_cases e : x.name ∈ Gr.names (Gr.nodes (g.take i))
    · rw [if_pos e] at ih
      exact Ev.congr (fun k => by rw [decide_eq_true e, if_pos rfl]) ih
    · rw [if_neg e] at ih
      refine Ev.congr (f := fun k => quoinref08_Nodes.l0 k (g.map ofNd) ((Gr.nodes (g.take i)).map ofNd ++ [ofNd x]) ((Gr.names (Gr.nodes (g.take i))).map ba ++ [ba x.name]) ((i + 1 : Nat) : Int)) (fun k => by rw [decide_eq_false e, if_neg (by simp)]) (Ev.congr (fun k => ?_) ih)
      simp only [Gr.names, List.map_append, List.map_cons, List.map_nil]
theorem nodes_f (g : List Gr.Nd) (hL : g.length ≤ big) : Ev (fun k => quoinref08_Nodes.f k (g.map ofNd)) ((Gr.nodes g).map ofNd) := nodes_l0 g hL g.length 0 (by omega)

theorem insS_len (s : GStr) (l : List GStr) : (Gr.insS s l).length = l.length + 1 := Gr.len_insS s l
theorem withI_len {L : List GStr} {s : GStr} {i : Nat} {out : List GStr} {b : Bool} (h : Gr.WithI L s i out b) : out.length ≤ i + 1 := by
  rcases h with ⟨_, _, rfl⟩ | ⟨_, ⟨_, rfl, _⟩ | ⟨_, rfl, _⟩⟩
  · simp; omega
  · simp; omega
  · rw [insS_len]; simp; omega
theorem with_l0 (L : List GStr) (s : GStr) (hL : L.length ≤ big) : ∀ (d i : Nat) (out : List GStr) (b : Bool), i + d = L.length → Gr.WithI L s i out b → Ev (fun k => quoinref08_With.l0 k (L.map ba) (ba s) (out.map ba) b (i : Int)) ((Gr.withS L s).map ba)
  | 0, i, out, b, h, hw => by
    have hlen := withI_len hw
    unfold big at hL
    obtain rfl : i = L.length := by omega
    cases b with
    | true => exact Ev.step (f := fun _ => some (out.map ba)) (fun k => by rw [quoinref08_With.l0, if_neg (by simp), if_pos rfl]) (by rw [hw.done]; exact Ev.now _)
    | false => exact Ev.step (f := fun _ => some ((out ++ [s]).map ba)) (fun k => by rw [quoinref08_With.l0, if_neg (by simp), if_neg (by simp), if_pos (by simp; omega)]; simp) (by rw [hw.last]; exact Ev.now _)
  | d + 1, i, out, b, h, hw => by
    obtain ⟨x, hx⟩ := get_of h
    have hi := lt_len hx
    have hlen := withI_len hw
    have hL' := hL
    unfold big at hL
    cases b with
    | true =>
      have ih := with_l0 L s hL' d (i + 1) _ _ (by omega) (hw.pass hx (.inl rfl))
      refine Ev.step (fun k => by rw [quoinref08_With.l0, if_pos (by simp; omega), if_pos rfl, if_pos (by omega), if_pos (by simp; omega), rdS hx, wr1 (by omega)]) (Ev.congr (fun k => ?_) ih)
      rw [List.map_append]; rfl
    | false =>
      by_cases hlt : s < x
      · have ih := with_l0 L s hL' d (i + 1) _ _ (by omega) (hw.put hx hlt)
        refine Ev.step (fun k => by rw [quoinref08_With.l0, if_pos (by simp; omega), if_neg (by simp), if_pos (by omega), rdS hx, ba_tl, ba_tl, if_pos ((bytesLess_lt _ _).2 hlt), if_pos (by simp; omega), Option.bind_some, if_pos (by simp; omega), wr1 (by omega)]) (Ev.congr (fun k => ?_) ih)
        rw [List.map_append, List.map_append]; rfl
      · have ih := with_l0 L s hL' d (i + 1) _ _ (by omega) (hw.pass hx (.inr hlt))
        refine Ev.step (fun k => by rw [quoinref08_With.l0, if_pos (by simp; omega), if_neg (by simp), if_pos (by omega), rdS hx, ba_tl, ba_tl, if_neg (fun e => hlt ((bytesLess_lt _ _).1 e)), if_pos (by simp; omega), wr1 (by omega)]) (Ev.congr (fun k => ?_) ih)
        rw [List.map_append]; rfl
theorem with_f (L : List GStr) (s : GStr) (hL : L.length ≤ big) : Ev (fun k => quoinref08_With.f k (L.map ba) (ba s)) ((Gr.withS L s).map ba) :=
  Ev.bind (has_f L s hL) (with_l0 L s hL L.length 0 [] _ (by omega) (Gr.WithI.start L s))
end Go.Proofs.Ytpdilplgdbcjpaa
namespace Go.Proofs.Ytpdilplgdbcjpaa
open Go.RowKit PRef Go.Proofs.YtpdilplgdbcjpaaW.PrintWords
set_option linter.unusedVariables false

def impOk (g : List Gr.Nd) (D : List GStr) (i : GStr) : Bool := decide (i ∉ Gr.names g) || decide (i ∈ D)
theorem ready_l1 (g : List Gr.Nd) (D acc : List GStr) (i : Nat) (x : Gr.Nd) (R : List ByteArray) (hx : g[i]? = some x) (hg : g.length ≤ big) (hD : D.length ≤ big) (hacc : acc.length ≤ big) (hi : x.imps.length ≤ big) : ∀ (d j : Nat) (ok : Bool), j + d = x.imps.length →
    Ev (fun k => quoinref08_Ready.l0 k (g.map ofNd) (D.map ba) ((Gr.names g).map ba) ((if (ok && (x.imps.drop j).all (impOk g D)) = true then Gr.withS acc x.name else acc).map ba) ((i + 1 : Nat) : Int)) R →
    Ev (fun k => quoinref08_Ready.l1 k (g.map ofNd) (D.map ba) ((Gr.names g).map ba) (acc.map ba) (i : Int) ok (j : Int)) R := by
  have hlt := lt_len hx
  -- behind the imports
  have hend : ∀ (j : Nat) (ok : Bool), Ev (fun k => quoinref08_Ready.l0 k (g.map ofNd) (D.map ba) ((Gr.names g).map ba) ((if ok = true then Gr.withS acc x.name else acc).map ba) ((i + 1 : Nat) : Int)) R →
      Ev (fun k => quoinref08_Ready.j2 k (g.map ofNd) (D.map ba) ((Gr.names g).map ba) (acc.map ba) (i : Int) ok (j : Int) false) R := by
    intro j ok h
    cases ok with
    | true =>
      refine Ev.step (f := fun k => (quoinref08_With.f k (acc.map ba) (ba x.name)).bind fun t => quoinref08_Ready.l0 k (g.map ofNd) (D.map ba) ((Gr.names g).map ba) t ((i + 1 : Nat) : Int)) (fun k => by rw [quoinref08_Ready.j2, if_neg (by simp), if_pos rfl, if_pos (by omega), if_pos (by simp; omega), rdN hx, wr1 (by unfold big at hg; omega)]; rfl) (Ev.bind (with_f acc x.name hacc) h)
    | false =>
      exact Ev.step (f := fun k => quoinref08_Ready.l0 k (g.map ofNd) (D.map ba) ((Gr.names g).map ba) (acc.map ba) ((i + 1 : Nat) : Int)) (fun k => by rw [quoinref08_Ready.j2, if_neg (by simp), if_neg (by simp), wr1 (by unfold big at hg; omega)]) h
  intro d
  induction d with
  | zero =>
    intro j ok h hR
    rw [List.drop_eq_nil_of_le (by omega)] at hR
    simp only [List.all_nil, Bool.and_true] at hR
    exact Ev.step (f := fun k => quoinref08_Ready.j2 k (g.map ofNd) (D.map ba) ((Gr.names g).map ba) (acc.map ba) (i : Int) ok (j : Int) false) (fun k => by rw [quoinref08_Ready.l1, if_pos (by omega), if_pos (by simp; omega), rdN hx, if_neg (by simp [ofNd]; omega)]) (hend j ok hR)
  | succ d ih =>
    intro j ok h hR
    obtain ⟨y, hy⟩ := get_of h
    have hj := lt_len hy
    rw [drop_at hy, List.all_cons] at hR
    refine Ev.step (f := fun k => quoinref08_Ready.j2 k (g.map ofNd) (D.map ba) ((Gr.names g).map ba) (acc.map ba) (i : Int) ok (j : Int) ok) (fun k => by rw [quoinref08_Ready.l1, if_pos (by omega), if_pos (by simp; omega), rdN hx, if_pos (by simp [ofNd]; omega)]) ?_
    cases ok with
    | false =>
      simp only [Bool.false_and] at hR
      exact hend j false hR
    | true =>
      simp only [Bool.true_and] at hR
      refine Ev.step (f := fun k => (quoinref08_Has.f k ((Gr.names g).map ba) (ba y)).bind fun t => if t = true then (quoinref08_Has.f k (D.map ba) (ba y)).bind fun u => quoinref08_Ready.l1 k (g.map ofNd) (D.map ba) ((Gr.names g).map ba) (acc.map ba) (i : Int) u ((j + 1 : Nat) : Int) else quoinref08_Ready.l1 k (g.map ofNd) (D.map ba) ((Gr.names g).map ba) (acc.map ba) (i : Int) true ((j + 1 : Nat) : Int))
        (fun k => by rw [quoinref08_Ready.j2, if_pos rfl, if_pos (by omega), if_pos (by simp; omega), if_pos (by omega), rdN hx, if_pos (by simp [ofNd]; omega), show rdOf ByteArray.empty (ofNd x).f1 (j : Int) = ba y from rdS hy, wr1 (by unfold big at hi; omega)]) (Ev.bind (has_f (Gr.names g) y (by rw [names_len]; exact hg)) ?_)
      by_cases hn : y ∈ Gr.names g
      · refine Ev.congr (f := fun k => (quoinref08_Has.f k (D.map ba) (ba y)).bind fun u => quoinref08_Ready.l1 k (g.map ofNd) (D.map ba) ((Gr.names g).map ba) (acc.map ba) (i : Int) u ((j + 1 : Nat) : Int)) (fun k => by rw [decide_eq_true hn, if_pos rfl]) (Ev.bind (has_f D y hD) ?_)
        refine ih (j + 1) _ (by omega) ?_
        have e : impOk g D y = decide (y ∈ D) := by simp [impOk, hn]
        rw [e] at hR
        exact hR
      · refine Ev.congr (f := fun k => quoinref08_Ready.l1 k (g.map ofNd) (D.map ba) ((Gr.names g).map ba) (acc.map ba) (i : Int) true ((j + 1 : Nat) : Int)) (fun k => by rw [decide_eq_false hn, if_neg (by simp)]) ?_
        refine ih (j + 1) _ (by omega) ?_
        have e : impOk g D y = true := by simp [impOk, hn]
        rw [e] at hR
        simpa using hR
theorem canon_len (l : List GStr) : (Gr.canon l).length ≤ l.length := Gr.len_canon l
theorem rowIf_len (g : List Gr.Nd) (p : GStr → Bool) : (Gr.rowIf g p).length ≤ g.length := by
  unfold Gr.rowIf
  have h1 := canon_len ((Gr.names g).filter p)
  have h2 := List.length_filter_le p (Gr.names g)
  rw [names_len] at h2
  omega
theorem ready_l0 (g : List Gr.Nd) (hn : (Gr.names g).Nodup) (D : List GStr) (hg : g.length ≤ big) (hi : ∀ x ∈ g, x.imps.length ≤ big) (hD : D.length ≤ big) : ∀ (d i : Nat), i + d = g.length →
    Ev (fun k => quoinref08_Ready.l0 k (g.map ofNd) (D.map ba) ((Gr.names g).map ba) ((Gr.rowIf (g.take i) (Gr.isReady g D)).map ba) (i : Int)) ((Gr.readyL g D).map ba)
  | 0, i, h => by
    rw [List.take_of_length_le (by omega)]
    exact Ev.step (f := fun _ => some ((Gr.readyL g D).map ba)) (fun k => by rw [quoinref08_Ready.l0, if_neg (by simp; omega)]; rfl) (Ev.now _)
  | d + 1, i, h => by
    obtain ⟨x, hx⟩ := get_of h
    have hlt := lt_len hx
    have hm := List.mem_of_getElem? hx
    have ih := ready_l0 g hn D hg hi hD d (i + 1) (by omega)
    rw [take_at hx, Gr.rowIf_snoc, Gr.isReady_node hn hm] at ih
    have hr := rowIf_len (g.take i) (Gr.isReady g D)
    rw [List.length_take] at hr
    refine Ev.step (f := fun k => (quoinref08_Has.f k (D.map ba) (ba x.name)).bind fun t => quoinref08_Ready.l1 k (g.map ofNd) (D.map ba) ((Gr.names g).map ba) ((Gr.rowIf (g.take i) (Gr.isReady g D)).map ba) (i : Int) (!t) ((0 : Nat) : Int)) (fun k => by rw [quoinref08_Ready.l0, if_pos (by simp; omega), if_pos (by omega), rdN hx]; rfl) (Ev.bind (has_f D x.name hD) ?_)
    refine ready_l1 g D _ i x _ hx hg hD (by omega) (hi x hm) x.imps.length 0 _ (by omega) ?_
    have e : (!decide (x.name ∈ D)) = decide (x.name ∉ D) := by by_cases h : x.name ∈ D <;> simp [h]
    rw [e, List.drop_zero]
    exact ih
theorem nodes_imps {g : List Gr.Nd} (hi : ∀ x ∈ g, x.imps.length ≤ big) : ∀ x ∈ Gr.nodes g, x.imps.length ≤ big := fun x hx => hi x (Gr.nodes_mem hx)
theorem ready_f (g : List Gr.Nd) (D : List GStr) (hg : g.length ≤ big) (hi : ∀ x ∈ g, x.imps.length ≤ big) (hD : D.length ≤ big) : Ev (fun k => quoinref08_Ready.f k (g.map ofNd) (D.map ba)) ((Gr.readyL (Gr.nodes g) D).map ba) := by
  have hl : (Gr.nodes g).length ≤ big := Nat.le_trans (nodes_len g) hg
  exact Ev.bind (nodes_f g hg) (Ev.bind (names_f (Gr.nodes g) hl) (ready_l0 (Gr.nodes g) (Gr.nodes_nodup g) D hl (nodes_imps hi) hD (Gr.nodes g).length 0 (by omega)))

theorem order_l1 (g : List Gr.Nd) (o : List GStr) (hg : g.length ≤ big) (ho : o.length ≤ big) : ∀ (d i : Nat), i + d = g.length →
    Ev (fun k => quoinref08_Order.l1 k (g.map ofNd) (o.map ba) ((Gr.rowIf (g.take i) (fun n => decide (n ∉ o))).map ba) (i : Int)) (o.map ba, (Gr.rowIf g (fun n => decide (n ∉ o))).map ba)
  | 0, i, h => by
    rw [List.take_of_length_le (by omega)]
    exact Ev.step (f := fun _ => some (o.map ba, (Gr.rowIf g (fun n => decide (n ∉ o))).map ba)) (fun k => by rw [quoinref08_Order.l1, if_neg (by simp; omega)]) (Ev.now _)
  | d + 1, i, h => by
    obtain ⟨x, hx⟩ := get_of h
    have hlt := lt_len hx
    have ih := order_l1 g o hg ho d (i + 1) (by omega)
    rw [take_at hx, Gr.rowIf_snoc] at ih
    have hr := rowIf_len (g.take i) (fun n => decide (n ∉ o))
    rw [List.length_take] at hr
    refine Ev.step (f := fun k => (quoinref08_Has.f k (o.map ba) (ba x.name)).bind fun t => if t = true then quoinref08_Order.l1 k (g.map ofNd) (o.map ba) ((Gr.rowIf (g.take i) (fun n => decide (n ∉ o))).map ba) ((i + 1 : Nat) : Int) else
        (quoinref08_With.f k ((Gr.rowIf (g.take i) (fun n => decide (n ∉ o))).map ba) (ba x.name)).bind fun u => quoinref08_Order.l1 k (g.map ofNd) (o.map ba) u ((i + 1 : Nat) : Int))
      (fun k => by rw [quoinref08_Order.l1, if_pos (by simp; omega), if_pos (by omega), rdN hx, wr1 (by unfold big at hg; omega)]; rfl) (Ev.bind (has_f o x.name ho) ?_)
    by_cases e : x.name ∈ o
    · rw [if_neg (by simp [e])] at ih
      exact Ev.congr (fun k => by rw [decide_eq_true e, if_pos rfl]) ih
    · rw [if_pos (by simp [e])] at ih
      exact Ev.congr (f := fun k => (quoinref08_With.f k ((Gr.rowIf (g.take i) (fun n => decide (n ∉ o))).map ba) (ba x.name)).bind fun u => quoinref08_Order.l1 k (g.map ofNd) (o.map ba) u ((i + 1 : Nat) : Int)) (fun k => by rw [decide_eq_false e, if_neg (by simp)]) (Ev.bind (with_f _ x.name (Nat.le_trans (rowIf_len _ _) (by rw [List.length_take]; omega))) ih)
theorem order_j1 (g : List Gr.Nd) (o : List GStr) (hg : g.length ≤ big) (ho : o.length ≤ big) : Ev (fun k => quoinref08_Order.j1 k (g.map ofNd) (o.map ba)) (o.map ba, (Gr.rowIf g (fun n => decide (n ∉ o))).map ba) :=
  Ev.step (fun k => by rw [quoinref08_Order.j1]; rfl) (order_l1 g o hg ho g.length 0 (by omega))
theorem order_l0 (g : List Gr.Nd) (hn : (Gr.names g).Nodup) (hg : g.length ≤ big) (hi : ∀ x ∈ g, x.imps.length ≤ big) : ∀ (d : Nat) (o : List GStr), Gr.Good g o → o.length + d = g.length →
    Ev (fun k => quoinref08_Order.l0 k (g.map ofNd) (o.map ba)) ((Gr.orderF g d o).map ba, (Gr.rowIf g (fun n => decide (n ∉ Gr.orderF g d o))).map ba)
  | 0, o, ho, h => by
    rw [Gr.orderF]
    exact Ev.step (f := fun k => quoinref08_Order.j1 k (g.map ofNd) (o.map ba)) (fun k => by rw [quoinref08_Order.l0, if_neg (by simp; omega)]) (order_j1 g o hg (by unfold big at *; omega))
  | d + 1, o, ho, h => by
    have hr := ready_f g o hg hi (by omega)
    rw [Gr.nodes_of_nodup hn] at hr
    refine Ev.step (f := fun k => (quoinref08_Ready.f k (g.map ofNd) (o.map ba)).bind fun t => if (t.length : Int) = 0 then quoinref08_Order.j1 k (g.map ofNd) (o.map ba) else if 0 < (t.length : Int) then if (o.map ba).length < 8796093022208 then quoinref08_Order.l0 k (g.map ofNd) (o.map ba ++ [rdOf ByteArray.empty t 0]) else none else none)
      (fun k => by rw [quoinref08_Order.l0, if_pos (by simp; omega)]) (Ev.bind hr ?_)
    cases hq : Gr.readyL g o with
    | nil =>
      rw [Gr.orderF, hq]
      exact Ev.congr (f := fun k => quoinref08_Order.j1 k (g.map ofNd) (o.map ba)) (fun k => by rw [if_pos (by simp)]) (order_j1 g o hg (by omega))
    | cons x r =>
      rw [Gr.orderF, hq]
      have ih := order_l0 g hn hg hi d (o ++ [x]) (ho.snoc (by rw [hq]; exact List.mem_cons_self)) (by simp; omega)
      refine Ev.congr (fun k => ?_) ih
      rw [if_neg (by simp <;> omega), if_pos (by simp <;> omega), if_pos (by simp; unfold big at hg; omega), show rdOf ByteArray.empty ((x :: r).map ba) 0 = ba x from rdS (i := 0) rfl, List.map_append]
      rfl
theorem order_f (g : List Gr.Nd) (hg : g.length ≤ big) (hi : ∀ x ∈ g, x.imps.length ≤ big) : Ev (fun k => quoinref08_Order.f k (g.map ofNd)) ((Gr.orderP (Gr.nodes g)).map ba, (Gr.stuckP (Gr.nodes g)).map ba) := by
  have hl : (Gr.nodes g).length ≤ big := Nat.le_trans (nodes_len g) hg
  exact Ev.bind (nodes_f g hg) (order_l0 (Gr.nodes g) (Gr.nodes_nodup g) hl (nodes_imps hi) (Gr.nodes g).length [] (Gr.Good.nil _) (by simp))

theorem users_len (g : List Gr.Nd) (n : GStr) : (Gr.usersP g n).length ≤ g.length := by
  unfold Gr.usersP
  have h1 := canon_len ((g.filter (fun d => decide (n ∈ d.imps))).map (·.name))
  have h2 := List.length_filter_le (fun d : Gr.Nd => decide (n ∈ d.imps)) g
  rw [List.length_map] at h1
  omega
theorem users_l0 (g : List Gr.Nd) (n : GStr) (hg : g.length ≤ big) (hi : ∀ x ∈ g, x.imps.length ≤ big) : ∀ (d i : Nat), i + d = g.length →
    Ev (fun k => quoinref08_Users.l0 k (g.map ofNd) (ba n) ((Gr.usersP (g.take i) n).map ba) (i : Int)) ((Gr.usersP g n).map ba)
  | 0, i, h => by
    rw [List.take_of_length_le (by omega)]
    exact Ev.step (f := fun _ => some ((Gr.usersP g n).map ba)) (fun k => by rw [quoinref08_Users.l0, if_neg (by simp; omega)]) (Ev.now _)
  | d + 1, i, h => by
    obtain ⟨x, hx⟩ := get_of h
    have hlt := lt_len hx
    have ih := users_l0 g n hg hi d (i + 1) (by omega)
    have hs : Gr.usersP (g.take (i + 1)) n = if n ∈ x.imps then Gr.withS (Gr.usersP (g.take i) n) x.name else Gr.usersP (g.take i) n := by rw [take_at hx]; exact Gr.usersP_snoc _ _ _
    rw [hs] at ih
    have hr := users_len (g.take i) n
    rw [List.length_take] at hr
    refine Ev.step (f := fun k => (quoinref08_Has.f k (x.imps.map ba) (ba n)).bind fun t => if t = true then (quoinref08_With.f k ((Gr.usersP (g.take i) n).map ba) (ba x.name)).bind fun u => quoinref08_Users.l0 k (g.map ofNd) (ba n) u ((i + 1 : Nat) : Int) else quoinref08_Users.l0 k (g.map ofNd) (ba n) ((Gr.usersP (g.take i) n).map ba) ((i + 1 : Nat) : Int))
      (fun k => by rw [quoinref08_Users.l0, if_pos (by simp; omega), if_pos (by omega), rdN hx, wr1 (by unfold big at hg; omega)]; rfl) (Ev.bind (has_f x.imps n (hi x (List.mem_of_getElem? hx))) ?_)
    by_cases e : n ∈ x.imps
    · rw [if_pos e] at ih
      exact Ev.congr (f := fun k => (quoinref08_With.f k ((Gr.usersP (g.take i) n).map ba) (ba x.name)).bind fun u => quoinref08_Users.l0 k (g.map ofNd) (ba n) u ((i + 1 : Nat) : Int)) (fun k => by rw [decide_eq_true e, if_pos rfl]) (Ev.bind (with_f _ _ (by omega)) ih)
    · rw [if_neg e] at ih
      exact Ev.congr (fun k => by rw [decide_eq_false e, if_neg (by simp)]) ih
theorem users_f (g : List Gr.Nd) (n : GStr) (hg : g.length ≤ big) (hi : ∀ x ∈ g, x.imps.length ≤ big) : Ev (fun k => quoinref08_Users.f k (g.map ofNd) (ba n)) ((Gr.usersP (Gr.nodes g) n).map ba) := by
  have hl : (Gr.nodes g).length ≤ big := Nat.le_trans (nodes_len g) hg
  exact Ev.bind (nodes_f g hg) (users_l0 (Gr.nodes g) n hl (nodes_imps hi) (Gr.nodes g).length 0 (by omega))

/-- What imports has collected behind i nodes and j imports of the next one. -/
def impAcc (g : List Gr.Nd) (n : GStr) (i : Nat) (x : Gr.Nd) (j : Nat) : List GStr := Gr.canon (Gr.impRow g n (g.take i) ++ (if x.name = n then (x.imps.take j).filter (fun y => decide (y ∈ Gr.names g)) else []))
theorem canon_sub_len {g : List Gr.Nd} {l : List GStr} (h : ∀ x ∈ l, x ∈ Gr.names g) : (Gr.canon l).length ≤ g.length := by
  have := Gr.sub_len (Gr.canon_up l).nodup (m := Gr.names g) (fun x hx => h x ((Gr.mem_canon _ _).1 hx))
  rwa [names_len] at this
theorem impAcc_len (g : List Gr.Nd) (n : GStr) (i : Nat) (x : Gr.Nd) (j : Nat) : (impAcc g n i x j).length ≤ g.length := by
  refine canon_sub_len fun y hy => ?_
  rcases List.mem_append.1 hy with h | h
  · unfold Gr.impRow at h
    obtain ⟨d, _, hd⟩ := List.mem_flatMap.1 h
    simpa using (List.mem_filter.1 hd).2
  · split at h
    · simpa using (List.mem_filter.1 h).2
    · simp at h
theorem imports_l1 (g : List Gr.Nd) (n : GStr) (i : Nat) (x : Gr.Nd) (R : List ByteArray) (hx : g[i]? = some x) (hg : g.length ≤ big) (hi : x.imps.length ≤ big)
    (hR : Ev (fun k => quoinref08_imports.l0 k (g.map ofNd) (ba n) ((Gr.names g).map ba) ((impAcc g n i x x.imps.length).map ba) ((i + 1 : Nat) : Int)) R) : ∀ (d j : Nat), j + d = x.imps.length →
    Ev (fun k => quoinref08_imports.l1 k (g.map ofNd) (ba n) ((Gr.names g).map ba) ((impAcc g n i x j).map ba) (i : Int) (j : Int)) R := by
  have hlt := lt_len hx
  have hend : ∀ (j : Nat) (A : List ByteArray), Ev (fun k => quoinref08_imports.l0 k (g.map ofNd) (ba n) ((Gr.names g).map ba) A ((i + 1 : Nat) : Int)) R → Ev (fun k => quoinref08_imports.j2 k (g.map ofNd) (ba n) ((Gr.names g).map ba) A (i : Int) (j : Int) false) R := fun j A h =>
    Ev.step (f := fun k => quoinref08_imports.l0 k (g.map ofNd) (ba n) ((Gr.names g).map ba) A ((i + 1 : Nat) : Int)) (fun k => by rw [quoinref08_imports.j2, if_neg (by simp), wr1 (by unfold big at hg; omega)]) h
  intro d
  induction d with
  | zero =>
    intro j h
    obtain rfl : j = x.imps.length := by omega
    exact Ev.step (f := fun k => quoinref08_imports.j2 k (g.map ofNd) (ba n) ((Gr.names g).map ba) ((impAcc g n i x x.imps.length).map ba) (i : Int) ((x.imps.length : Nat) : Int) false) (fun k => by rw [quoinref08_imports.l1, if_pos (by omega), if_pos (by simp; omega), rdN hx, if_neg (by simp [ofNd])]) (hend _ _ hR)
  | succ d ih =>
    intro j h
    obtain ⟨y, hy⟩ := get_of h
    have hj := lt_len hy
    have ih := ih (j + 1) (by omega)
    have hlen := impAcc_len g n i x j
    refine Ev.step (f := fun k => quoinref08_imports.j2 k (g.map ofNd) (ba n) ((Gr.names g).map ba) ((impAcc g n i x j).map ba) (i : Int) (j : Int) (x.name == n)) (fun k => by rw [quoinref08_imports.l1, if_pos (by omega), if_pos (by simp; omega), rdN hx, if_pos (by simp [ofNd]; omega), ba_tl, show (ofNd x).f0.toList = x.name from ba_tl _]) ?_
    by_cases hn : x.name = n
    · have he : (x.name == n) = true := by simp [hn]
      rw [he]
      have hs : impAcc g n i x (j + 1) = if y ∈ Gr.names g then Gr.withS (impAcc g n i x j) y else impAcc g n i x j := by
        unfold impAcc
        rw [if_pos hn, if_pos hn, take_at hy, List.filter_append, ← List.append_assoc]
        by_cases hy2 : y ∈ Gr.names g
        · rw [if_pos hy2, ← Gr.canon_snoc]
          simp [hy2]
        · rw [if_neg hy2]
          simp [hy2]
      rw [hs] at ih
      refine Ev.step (f := fun k => (quoinref08_Has.f k ((Gr.names g).map ba) (ba y)).bind fun t => if t = true then (quoinref08_With.f k ((impAcc g n i x j).map ba) (ba y)).bind fun u => quoinref08_imports.l1 k (g.map ofNd) (ba n) ((Gr.names g).map ba) u (i : Int) ((j + 1 : Nat) : Int) else quoinref08_imports.l1 k (g.map ofNd) (ba n) ((Gr.names g).map ba) ((impAcc g n i x j).map ba) (i : Int) ((j + 1 : Nat) : Int))
        (fun k => by rw [quoinref08_imports.j2, if_pos rfl, if_pos (by omega), if_pos (by simp; omega), if_pos (by omega), rdN hx, if_pos (by simp [ofNd]; omega), show rdOf ByteArray.empty (ofNd x).f1 (j : Int) = ba y from rdS hy, wr1 (by unfold big at hi; omega)]) (Ev.bind (has_f (Gr.names g) y (by rw [names_len]; exact hg)) ?_)
      by_cases hy2 : y ∈ Gr.names g
      · rw [if_pos hy2] at ih
        exact Ev.congr (f := fun k => (quoinref08_With.f k ((impAcc g n i x j).map ba) (ba y)).bind fun u => quoinref08_imports.l1 k (g.map ofNd) (ba n) ((Gr.names g).map ba) u (i : Int) ((j + 1 : Nat) : Int)) (fun k => by rw [decide_eq_true hy2, if_pos rfl]) (Ev.bind (with_f _ _ (by omega)) ih)
      · rw [if_neg hy2] at ih
        exact Ev.congr (fun k => by rw [decide_eq_false hy2, if_neg (by simp)]) ih
    · have he : (x.name == n) = false := by simp [hn]
      rw [he]
      have hs : ∀ j, impAcc g n i x j = Gr.canon (Gr.impRow g n (g.take i)) := fun j => by unfold impAcc; rw [if_neg hn, List.append_nil]
      rw [hs] at hR
      rw [hs]
      exact hend j _ hR
theorem imports_l0 (g : List Gr.Nd) (n : GStr) (hg : g.length ≤ big) (hi : ∀ x ∈ g, x.imps.length ≤ big) : ∀ (d i : Nat), i + d = g.length →
    Ev (fun k => quoinref08_imports.l0 k (g.map ofNd) (ba n) ((Gr.names g).map ba) ((Gr.canon (Gr.impRow g n (g.take i))).map ba) (i : Int)) ((Gr.canon (Gr.impRow g n g)).map ba)
  | 0, i, h => by
    rw [List.take_of_length_le (by omega)]
    exact Ev.step (f := fun _ => some ((Gr.canon (Gr.impRow g n g)).map ba)) (fun k => by rw [quoinref08_imports.l0, if_neg (by simp; omega)]) (Ev.now _)
  | d + 1, i, h => by
    obtain ⟨x, hx⟩ := get_of h
    have hlt := lt_len hx
    have ih := imports_l0 g n hg hi d (i + 1) (by omega)
    have e1 : Gr.canon (Gr.impRow g n (g.take (i + 1))) = impAcc g n i x x.imps.length := by
      unfold impAcc
      rw [take_at hx, Gr.impRow_snoc, List.take_length]
    have e0 : Gr.canon (Gr.impRow g n (g.take i)) = impAcc g n i x 0 := by
      unfold impAcc
      simp
    rw [e1] at ih
    rw [e0]
    exact Ev.step (f := fun k => quoinref08_imports.l1 k (g.map ofNd) (ba n) ((Gr.names g).map ba) ((impAcc g n i x 0).map ba) (i : Int) ((0 : Nat) : Int)) (fun k => by rw [quoinref08_imports.l0, if_pos (by simp; omega)]; rfl) (imports_l1 g n i x _ hx hg (hi x (List.mem_of_getElem? hx)) ih x.imps.length 0 (by omega))
theorem imports_f (g : List Gr.Nd) (n : GStr) (hg : g.length ≤ big) (hi : ∀ x ∈ g, x.imps.length ≤ big) : Ev (fun k => quoinref08_imports.f k (g.map ofNd) (ba n)) ((Gr.canon (Gr.impRow g n g)).map ba) :=
  Ev.bind (names_f g hg) (imports_l0 g n hg hi g.length 0 (by omega))
end Go.Proofs.Ytpdilplgdbcjpaa
