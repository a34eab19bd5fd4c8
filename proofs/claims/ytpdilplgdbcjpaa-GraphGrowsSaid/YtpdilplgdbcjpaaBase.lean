/- Small facts on worlds, blocks and rows, for the walks of a seat. -/
import Derived.Test.YtpdilplgdbcjpaaProg
import Derived.WalkKit
import Derived.KernelRfl
import Derived.WalkLawsBesides
import Derived.WalkSpells
import Derived.Deep.QuietTactic
import Derived.BigQuiet
import Derived.Lib.Hide
import Derived.Below
import Derived.Outline
import Derived.RowKit3
import Derived.OpenShut
import Derived.Deep.LoopGhost
import Derived.Handy
import Derived.OwnWalk
import Derived.ArgAppend
import Derived.WalkSmall
import Derived.Deep.AppendLies
import Derived.StillTailTactics
import Derived.Lib.OthersKept
namespace Go.Proofs.Ytpdilplgdbcjpaa
open Go.RowKit
set_option linter.unusedVariables false

theorem blk_cell {W : World} {b : Nat} {cs : Array Value} {t : TypeId} {f : Nat × Nat} (h : W.heap[b]? = some (.cells cs t f)) (j : Nat) : W.cell? ⟨b, j, none⟩ = cs[j]? := by simp [World.cell?, h]
theorem blk_free {W : World} {b : Nat} {cs : Array Value} {t : TypeId} (h : W.heap[b]? = some (.cells cs t (0, 0))) (j : Nat) : W.frozen? ⟨b, j, none⟩ = false := by simp [World.frozen?, h]
theorem blk_lt {W : World} {b : Nat} {o : Obj} (h : W.heap[b]? = some o) : b < W.heap.size := (Array.getElem?_eq_some_iff.1 h).1
theorem blk_set {W : World} {b : Nat} {cs : Array Value} {t : TypeId} {f : Nat × Nat} (h : W.heap[b]? = some (.cells cs t f)) (j : Nat) (v : Value) :
    (W.setCell ⟨b, j, none⟩ v).heap[b]? = some (.cells (cs.setIfInBounds j v) t f) := by
  simp [World.setCell, Array.getElem?_modify, h]
theorem blk_far (W : World) (b j k : Nat) (v : Value) (h : k ≠ b) : (W.setCell ⟨b, j, none⟩ v).heap[k]? = W.heap[k]? := by
  simp only [World.setCell, Array.getElem?_modify]
  rw [if_neg (fun e => h e.symm)]
theorem blk_alloc {W : World} {b : Nat} {o : Obj} (h : W.heap[b]? = some o) (o' : Obj) : (W.alloc o').heap[b]? = some o := (Go.heap_alloc_old W o' (blk_lt h)).trans h
theorem blk_new (W : World) (o : Obj) : (W.alloc o).heap[W.heap.size]? = some o := Go.heap_alloc_new W o
theorem blk_ne {W : World} {a b : Nat} {cs cs' : Array Value} {t t' : TypeId} {f f' : Nat × Nat} (h : W.heap[a]? = some (.cells cs t f)) (h' : W.heap[b]? = some (.cells cs' t' f')) (ht : t ≠ t') : a ≠ b := by
  rintro rfl
  rw [h] at h'
  injection h' with h'
  injection h' with _ h'
  exact ht h'

theorem bel_alloc {w W : World} (h : Below w.heap.size w W) (o : Obj) : Below w.heap.size w (W.alloc o) := h.alloc h.size o
theorem bel_drewN {w W : World} (h : Below w.heap.size w W) (n : Nat) : Below w.heap.size w (W.drewN n) := ⟨h.os, h.tape, h.output, h.size, h.block⟩
theorem bel_drew {w W : World} (h : Below w.heap.size w W) : Below w.heap.size w W.drew := ⟨h.os, h.tape, h.output, h.size, h.block⟩
theorem bel_trans {w w1 w2 : World} (h : Below w.heap.size w w1) (k : Below w1.heap.size w1 w2) : Below w.heap.size w w2 :=
  h.trans ⟨k.os, k.tape, k.output, k.size, fun i hi => k.block i (Nat.lt_of_lt_of_le hi h.size)⟩
theorem cell_later {W w1 : World} {a : Addr} {v : Value} (hb : Below W.heap.size W w1) (h : W.cell? a = some v) : w1.cell? a = some v :=
  (hb.cell (World.block_lt_of_cell? W a h)).trans h
theorem blk_later {W w1 : World} {b : Nat} {o : Obj} (hb : Below W.heap.size W w1) (h : W.heap[b]? = some o) : w1.heap[b]? = some o := (hb.block b (blk_lt h)).trans h

/-- The world is the old one, but for draws. -/
structure Drew (w w' : World) : Prop where mk :: (out : ∃ n, w' = w.drewN n)
theorem Drew.refl (w : World) : Drew w w := ⟨⟨0, rfl⟩⟩
theorem Drew.step {w w' : World} (h : Drew w w') (n : Nat) : Drew w (w'.drewN n) := by
  obtain ⟨m, rfl⟩ := h
  exact ⟨⟨m + n, World.drewN_drewN ..⟩⟩
theorem Drew.trans {w w1 w2 : World} (h : Drew w w1) (k : Drew w1 w2) : Drew w w2 := by
  obtain ⟨n, rfl⟩ := k
  exact h.step n
theorem Drew.bel {w w' : World} (h : Drew w w') : Below w.heap.size w w' := by
  obtain ⟨n, rfl⟩ := h
  exact bel_drewN (Below.refl _ _) n

/-- w' is w but for blocks of S and new ones. -/
structure Keeps (w w' : World) (S : Nat → Prop) : Prop where
  os : w'.os = w.os
  tape : w'.tape = w.tape
  output : w'.output = w.output
  size : w.heap.size ≤ w'.heap.size
  block : ∀ k, k < w.heap.size → ¬ S k → w'.heap[k]? = w.heap[k]?
theorem Keeps.refl (w : World) (S : Nat → Prop) : Keeps w w S := ⟨rfl, rfl, rfl, Nat.le_refl _, fun _ _ _ => rfl⟩
theorem Keeps.trans {w w1 w2 : World} {S T : Nat → Prop} (h : Keeps w w1 S) (k : Keeps w1 w2 T) (hs : ∀ i, i < w.heap.size → T i → S i) : Keeps w w2 S :=
  ⟨k.os.trans h.os, k.tape.trans h.tape, k.output.trans h.output, Nat.le_trans h.size k.size, fun i hi hn => (k.block i (Nat.lt_of_lt_of_le hi h.size) (fun t => hn (hs i hi t))).trans (h.block i hi hn)⟩
theorem Keeps.same {w w1 w2 : World} {S : Nat → Prop} (h : Keeps w w1 S) (k : Keeps w1 w2 S) : Keeps w w2 S := h.trans k fun _ _ t => t
theorem Keeps.alloc {w w1 : World} {S : Nat → Prop} (h : Keeps w w1 S) (o : Obj) : Keeps w (w1.alloc o) S :=
  ⟨h.os, h.tape, h.output, by have := h.size; simp; omega, fun k hk hn => (Go.heap_alloc_old w1 o (Nat.lt_of_lt_of_le hk h.size)).trans (h.block k hk hn)⟩
theorem Keeps.drewN {w w1 : World} {S : Nat → Prop} (h : Keeps w w1 S) (n : Nat) : Keeps w (w1.drewN n) S := ⟨h.os, h.tape, h.output, h.size, h.block⟩
theorem Keeps.drew {w w1 : World} {S : Nat → Prop} (h : Keeps w w1 S) : Keeps w w1.drew S := ⟨h.os, h.tape, h.output, h.size, h.block⟩
theorem Keeps.set {w w1 : World} {S : Nat → Prop} (h : Keeps w w1 S) (b j : Nat) (v : Value) (hb : S b ∨ w.heap.size ≤ b) : Keeps w (w1.setCell ⟨b, j, none⟩ v) S :=
  ⟨h.os, h.tape, h.output, by have := h.size; simpa using this, fun k hk hn => (blk_far w1 b j k v (by rintro rfl; rcases hb with hb | hb <;> first | exact hn hb | omega)).trans (h.block k hk hn)⟩
theorem Keeps.grown {w w1 w2 : World} {S : Nat → Prop} {row : Option Nat} (h : Keeps w w1 S) (hg : w1.grownBy w2 row) (hr : ∀ k, row = some k → S k ∨ w.heap.size ≤ k) : Keeps w w2 S :=
  ⟨hg.os.trans h.os, hg.tape.trans h.tape, hg.output.trans h.output, Nat.le_trans h.size hg.size, fun k hk hn => (hg.block k (Nat.lt_of_lt_of_le hk h.size) (by
    intro e
    rcases hr k e.symm with hs | hs
    · exact hn hs
    · omega)).trans (h.block k hk hn)⟩
theorem Keeps.of_below {w w1 : World} (h : Below w.heap.size w w1) (S : Nat → Prop) : Keeps w w1 S := ⟨h.os, h.tape, h.output, h.size, fun k hk _ => h.block k hk⟩
theorem Keeps.below {w w1 : World} {S : Nat → Prop} {B : Nat} (h : Keeps w w1 S) (hB : B ≤ w.heap.size) (hs : ∀ k, S k → B ≤ k) : Below B w w1 :=
  ⟨h.os, h.tape, h.output, h.size, fun k hk => h.block k (by omega) (fun hS => by have := hs k hS; omega)⟩
theorem Keeps.bel {w w1 : World} {S : Nat → Prop} (h : Keeps w w1 S) (hs : ∀ k, S k → w.heap.size ≤ k) : Below w.heap.size w w1 := h.below (Nat.le_refl _) hs
theorem Keeps.mono {w w1 : World} {S T : Nat → Prop} (h : Keeps w w1 S) (hs : ∀ k, k < w.heap.size → S k → T k) : Keeps w w1 T := ⟨h.os, h.tape, h.output, h.size, fun k hk hn => h.block k hk (fun t => hn (hs k hk t))⟩
theorem Keeps.blk {w w1 : World} {S : Nat → Prop} (h : Keeps w w1 S) {b : Nat} {o : Obj} (hb : w.heap[b]? = some o) (hn : ¬ S b) : w1.heap[b]? = some o := (h.block b (blk_lt hb) hn).trans hb
theorem Keeps.cell {w w1 : World} {S : Nat → Prop} (h : Keeps w w1 S) {a : Addr} {v : Value} (hc : w.cell? a = some v) (hn : ¬ S a.block) : w1.cell? a = some v :=
  (World.cell?_of_block (h.block a.block (World.block_lt_of_cell? w a hc) hn)).trans hc

theorem own_ne {w : World} {base : Nat} {e : TypeId} {size n : Nat} {v : Value} {xs : List Value} (h : w.ownsRow base e size v n xs) {k : Nat} {o : Obj} (hk : w.heap[k]? = some o) (ho : ∀ cs f, o ≠ .cells cs e f) : v.ownBlock ≠ some k := by
  intro hv
  rcases h.2 with ⟨rfl, _⟩ | ⟨g, cap, cur, rfl, _, hg, _⟩
  · simp [Value.ownBlock] at hv
  · simp [Value.ownBlock] at hv
    subst hv
    rw [hk] at hg
    injection hg with hg
    exact ho _ _ hg
theorem own_kept {w w' : World} {base : Nat} {e : TypeId} {size n : Nat} {v : Value} {xs : List Value} (h : w.ownsRow base e size v n xs) (hb : ∀ g, v.ownBlock = some g → w'.heap[g]? = w.heap[g]?) : w'.ownsRow base e size v n xs := by
  refine ⟨h.1, ?_⟩
  rcases h.2 with hn | ⟨g, cap, cur, rfl, hbg, hg, rest⟩
  · exact .inl hn
  · exact .inr ⟨g, cap, cur, rfl, hbg, by rw [hb g (by simp [Value.ownBlock])]; exact hg, rest⟩
theorem own_keeps {w w' : World} {base : Nat} {e : TypeId} {size n : Nat} {v : Value} {xs : List Value} {S : Nat → Prop} (h : w.ownsRow base e size v n xs) (hk : Keeps w w' S) (hn : ∀ g, v.ownBlock = some g → ¬ S g) : w'.ownsRow base e size v n xs :=
  own_kept h fun g hg => hk.block g (h.lt g hg).2 (hn g hg)
theorem own_later {w w' : World} {base : Nat} {e : TypeId} {size n : Nat} {v : Value} {xs : List Value} (h : w.ownsRow base e size v n xs) (hb : Below w.heap.size w w') : w'.ownsRow base e size v n xs :=
  own_kept h fun g hg => hb.block g (h.lt g hg).2
theorem own_base {w : World} {base : Nat} {e : TypeId} {size n : Nat} {v : Value} {xs : List Value} (h : w.ownsRow base e size v n xs) : ∀ k, v.ownBlock = some k → base ≤ k := fun k hk => (h.lt k hk).1
theorem own_slice {w : World} {base : Nat} {e : TypeId} {size n : Nat} {v : Value} {xs : List Value} (h : w.ownsRow base e size v n xs) : ∃ A c, v = .slice A n c ∧ n ≤ c := by
  rcases h.2 with ⟨rfl, rfl⟩ | ⟨g, cap, cur, rfl, _, _, hc, _⟩
  · exact ⟨none, 0, rfl, Nat.le_refl _⟩
  · exact ⟨_, cap, rfl, hc⟩
theorem one_news (w : World) (u : Value) (t : TypeId) : ∀ j x, [u][j]? = some x → (w.alloc (.cells #[u] t)).cell? ((⟨w.heap.size, 0, none⟩ : Addr).add j) = some x := by
  intro j x hx
  cases j with
  | zero => simp at hx; subst hx; simp [Addr.add]
  | succ j => simp at hx
end Go.Proofs.Ytpdilplgdbcjpaa
