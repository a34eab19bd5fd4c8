/- A map literal's entries: 'insert' at the operation. -/
import Derived.Test.YtlmggfbpdciioaaDoorSMap
namespace Go.Proofs.YtlmggfbpdciioaaDoor
open Go.RowKit
set_option linter.unusedVariables false

theorem wpList_insert_smap {P : Program} {ops : Array Oper} {rest : List Oper} {o : Oper} {a : Act} {Q : Exit → Act → World → Prop} {w : World} (hg : o.guard = none) (m x v : Operand) (t : TypeId) (hop : o.op = Op.insert t m x v)
    (k e : TypeId) (hk : P.underlying k = some .string) (ht : P.underlying t = some (.map k e)) (b n : Nat) (f : List UInt8 → Option Value) (hm : a.eval m = .map (some b)) (h : SMap P k w b n f) (hn : n < maxLen)
    (s : ByteArray) (hs : s.size ≤ maxLen) (val : Value) (hx : a.eval x = .string s) (hv : a.eval v = val)
    (hK : ∀ w', SMap P k w' b (n + 1) (fun x => if x = s.data.toList then some val else f x) → w.grownBy w' (some b) → wpList P ops Q rest (a.put o.dst undef) w') :
    wpList P ops Q (o :: rest) a w := by
  refine wpList_plain hg fun K' hK' => ?_
  obtain ⟨w', hrun, r1, r2⟩ := h.put hk ht hn s hs val
  unfold Oper.wp
  simp [execOp, hop, hm, hx, hv, hrun, Result.andThen]
  exact hK' _ _ (hK w' r1 r2)
end Go.Proofs.YtlmggfbpdciioaaDoor
