/- The walks of DepkeyApart, DepkeyPacks, DepkeyBack as the rows want them. -/
import Derived.Test.YtnafeapbglflnaaDkR
import Derived.Test.YtnafeapbglflnaaDkS
namespace Go.Proofs.Ytnafeapbglflnaa
open Go.RowKit PRef Go.Proofs.YtnafeapbglflnaaW.PrintWords
set_option linter.unusedVariables false

theorem apart_row (s : ByteArray) (A : Option Addr) (l : List S43) (c : Nat) (t : ByteArray) (B : Option Addr) (m : List S43) (d : Nat) (w : World) (hs : s.size ≤ 140737488351232) (hc : l.length ≤ c) (hC : Kd.C k43 w A l.length l) (ht : t.size ≤ 140737488351232) (hd : m.length ≤ d) (hD : Kd.C k43 w B m.length m) :
    Calls Try.prog 8 #[.string s, .slice A l.length c, .string t, .slice B m.length d] w fun e w' => e = .returned (.bool true) ∧ Below w.heap.size w w' := apart_any s l A c t m B d w hC hc hD hd
theorem packs_row (A : Option Addr) (l : List S45) (c : Nat) (has : Bool) (ex b : ByteArray) (w : World) (hc : l.length ≤ c) (hC : Kd.C k45 w A l.length l) (hb : b.size ≤ 140737488351232) :
    Calls Try.prog 6 #[.agg #[.slice A l.length c, .bool has, .string ex], .string b] w fun e w' => e = .returned (.bool true) ∧ Below w.heap.size w w' := packs_any l has ex A c b w hC hc
theorem back_row (s : ByteArray) (A : Option Addr) (l : List S43) (c : Nat) (B : Option Addr) (o : List S45) (d : Nat) (has : Bool) (ex b : ByteArray) (w : World) (hs : s.size ≤ 140737488351232) (hc : l.length ≤ c) (hC : Kd.C k43 w A l.length l) (hd : o.length ≤ d) (hD : Kd.C k45 w B o.length o) (hb : b.size ≤ 140737488351232) :
    Calls Try.prog 7 #[.string s, .slice A l.length c, .agg #[.slice B o.length d, .bool has, .string ex], .string b] w fun e w' => e = .returned (.bool true) ∧ Below w.heap.size w w' := back_any s l A c o has ex B d b w hC hc hD hd
end Go.Proofs.Ytnafeapbglflnaa
