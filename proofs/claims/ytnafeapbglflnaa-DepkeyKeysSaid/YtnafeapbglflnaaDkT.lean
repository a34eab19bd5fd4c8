/- The laws' walks as the rows want them. -/
import Derived.Test.YtnafeapbglflnaaDkP
import Derived.Test.YtnafeapbglflnaaDkS
namespace Go.Proofs.Ytnafeapbglflnaa
open Go.RowKit PRef Go.Proofs.YtnafeapbglflnaaW.PrintWords
set_option linter.unusedVariables false

theorem splits_row (s : ByteArray) (hs : s.size ≤ 140737488351232) (w : World) : Calls Try.prog 5 #[.string s] w fun e w' => e = .returned (.bool true) ∧ Below w.heap.size w w' := splits_any s w
theorem keys_row (s : ByteArray) (A : Option Addr) (l : List S43) (c : Nat) (w : World) (hs : s.size ≤ 140737488351232) (hc : l.length ≤ c) (hC : Kd.C k43 w A l.length l) :
    Calls Try.prog 4 #[.string s, .slice A l.length c] w fun e w' => e = .returned (.bool true) ∧ Below w.heap.size w w' := keys_any s l A c w hC hc
end Go.Proofs.Ytnafeapbglflnaa
