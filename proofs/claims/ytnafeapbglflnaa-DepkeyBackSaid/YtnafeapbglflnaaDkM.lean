/- The plain laws of depkey's bytes: what was laid is read, what was read is laid. -/
import Derived.Test.YtnafeapbglflnaaDkL
namespace Go.Proofs.Ytnafeapbglflnaa
open Go.RowKit PRef Go.Proofs.YtnafeapbglflnaaW.PrintWords
set_option linter.unusedVariables false

def mkB (xs : List UInt8) : ByteArray := ⟨xs.toArray⟩
def unB (b : ByteArray) : List UInt8 := b.data.toList
theorem mkB_un (b : ByteArray) : mkB (unB b) = b := by cases b; simp [mkB, unB]
theorem unB_mk (xs : List UInt8) : unB (mkB xs) = xs := by simp [mkB, unB]
theorem unB_inj {a b : ByteArray} (h : unB a = unB b) : a = b := by rw [← mkB_un a, h, mkB_un]
theorem unB_length (b : ByteArray) : (unB b).length = b.size := Array.length_toList
theorem mkB_size (xs : List UInt8) : (mkB xs).size = xs.length := by rw [← unB_length, unB_mk]
theorem unB_extract (b : ByteArray) (i j : Nat) : unB (b.extract i j) = (unB b).extract i j := by
  unfold unB
  rw [ByteArray.data_extract, Array.toList_extract]

theorem take_mk (xs ys : List UInt8) : takeF (mkB (xs ++ ys)) true xs.length = (mkB xs, mkB ys, true) := by
  unfold takeF
  rw [if_pos ⟨rfl, by rw [mkB_size]; simp⟩]
  refine Prod.ext (unB_inj ?_) (Prod.ext (unB_inj ?_) rfl)
  · simp only [unB_extract, unB_mk, List.extract_eq_take_drop]
    simp
  · simp only [unB_extract, unB_mk, mkB_size, List.extract_eq_take_drop]
    simp

theorem numOf_be4 (n : Nat) (h : n ≤ 2147483647) : numOf (be4 n) = n := by
  simp [numOf, be4]
  omega

theorem num_mk (n : Nat) (h : n ≤ 2147483647) (ys : List UInt8) : numF (mkB (be4 n ++ ys)) true = (n, mkB ys, true) := by
  have e := take_mk (be4 n) ys
  rw [be4_length] at e
  unfold numF
  rw [e]
  have h1 : numOf (mkB (be4 n)).data.toList = n := by
    rw [show (mkB (be4 n)).data.toList = be4 n from unB_mk _]
    exact numOf_be4 n h
  simp only
  rw [h1, decide_eq_true h]
  rfl

theorem rtext_mk (s : ByteArray) (h : s.size ≤ 2147483647) (ys : List UInt8) : rtextF (mkB (tx s ++ ys)) true = (s, mkB ys, true) := by
  unfold rtextF tx
  rw [List.append_assoc, num_mk _ h]
  simp only
  have e := take_mk (unB s) ys
  rw [unB_length] at e
  exact e.trans (by rw [mkB_un])

theorem many_mk (n : Nat) (h : n ≤ 5000) (ys : List UInt8) : manyF (mkB (be4 n ++ ys)) true = (n, mkB ys, true) := by
  unfold manyF
  rw [num_mk n (by omega)]
  simp only
  rw [decide_eq_true h]
  rfl

theorem flag_mk (b : Bool) (ys : List UInt8) : flagF (mkB (fl b ++ ys)) true = (b, mkB ys, true) := by
  have e := take_mk (fl b) ys
  rw [fl_length] at e
  unfold flagF
  rw [e]
  simp only
  rw [show (mkB (fl b)).data.toList = fl b from unB_mk _]
  cases b <;> rfl

theorem deps_mk (ys : List UInt8) : ∀ (l acc : List S43), (∀ d ∈ l, d.f0.size ≤ 2147483647 ∧ d.f2.size ≤ 2147483647 ∧ bareP d = false) → depsF l.length (mkB (l.flatMap depB ++ ys)) true acc = (acc ++ l, mkB ys, true)
  | [], acc, _ => by simp [depsF]
  | d :: l, acc, h => by
    obtain ⟨h0, h2, hb⟩ := h d List.mem_cons_self
    have e1 : (d :: l).flatMap depB ++ ys = tx d.f0 ++ (fl d.f1 ++ (tx d.f2 ++ (l.flatMap depB ++ ys))) := by simp [depB]
    rw [e1, List.length_cons]
    unfold depsF
    simp only
    rw [rtext_mk _ h0]
    simp only
    rw [flag_mk]
    simp only
    rw [rtext_mk _ h2]
    simp only
    have hb' : bareP ⟨d.f0, d.f1, d.f2⟩ = false := hb
    rw [hb', if_pos ⟨trivial, rfl⟩, deps_mk ys l _ (fun x hx => h x (List.mem_cons_of_mem _ hx))]
    simp

theorem split_mk (s : ByteArray) (l : List S43) (hs : s.size ≤ 2147483647) (hl : l.length ≤ 5000) (h : ∀ d ∈ l, d.f0.size ≤ 2147483647 ∧ d.f2.size ≤ 2147483647 ∧ bareP d = false) : splitF (mkB (keyB s l)) = (s, l, 0) := by
  unfold splitF
  have e1 : keyB s l = tx s ++ (be4 l.length ++ (l.flatMap depB ++ [])) := by simp [keyB]
  rw [e1, rtext_mk _ hs]
  simp only
  rw [many_mk _ hl]
  simp only
  rw [deps_mk [] l [] h]
  simp only
  rw [if_pos ⟨trivial, bytes_empty (by rw [mkB_size]; rfl)⟩]
  rfl

theorem take_un {b s b' : ByteArray} {n : Nat} (h : takeF b true n = (s, b', true)) : unB b = unB s ++ unB b' ∧ s.size = n := by
  unfold takeF at h
  split at h
  · rename_i hn
    obtain ⟨_, hn⟩ := hn
    injection h with h1 h
    injection h with h2 _
    subst h1 h2
    refine ⟨?_, by rw [ByteArray.size_extract]; omega⟩
    rw [unB_extract, unB_extract, List.extract_eq_take_drop, List.extract_eq_take_drop, List.drop_zero, Nat.sub_zero]
    rw [show (List.drop n (unB b)).take (b.size - n) = List.drop n (unB b) from List.take_of_length_le (by rw [List.length_drop, unB_length]; exact Nat.le_refl _)]
    exact (List.take_append_drop n _).symm
  · injection h with _ h
    injection h with _ h
    cases h

theorem takeF_false_of {b b' s : ByteArray} {f : Bool} {n : Nat} (h : takeF b f n = (s, b', true)) : f = true := by
  unfold takeF at h
  split at h
  · rename_i hn; exact hn.1
  · injection h with _ h
    injection h with _ h
    cases h

theorem be4_numOf (a b c d : UInt8) : be4 (numOf [a, b, c, d]) = [a, b, c, d] := by
  have h1 := a.toNat_lt
  have h2 := b.toNat_lt
  have h3 := c.toNat_lt
  have h4 := d.toNat_lt
  have e : numOf [a, b, c, d] = ((a.toNat * 256 + b.toNat) * 256 + c.toNat) * 256 + d.toNat := by simp [numOf]
  rw [e]
  unfold be4
  refine List.cons_eq_cons.2 ⟨UInt8.toNat_inj.1 ?_, List.cons_eq_cons.2 ⟨UInt8.toNat_inj.1 ?_, List.cons_eq_cons.2 ⟨UInt8.toNat_inj.1 ?_, List.cons_eq_cons.2 ⟨UInt8.toNat_inj.1 ?_, rfl⟩⟩⟩⟩
  all_goals
    rw [UInt8.toNat_ofNat']
    omega

theorem num_un {b b' : ByteArray} {n : Nat} (h : numF b true = (n, b', true)) : unB b = be4 n ++ unB b' ∧ n ≤ 2147483647 := by
  unfold numF at h
  generalize ht : takeF b true 4 = t at h
  obtain ⟨s, b1, f⟩ := t
  simp only at h
  injection h with h1 h
  injection h with h2 h3
  simp only [Bool.and_eq_true, decide_eq_true_eq] at h3
  obtain ⟨rfl, h3⟩ := h3
  subst h2
  obtain ⟨e, hs⟩ := take_un ht
  have hl : s.data.toList.length = 4 := by rw [Array.length_toList]; exact hs
  refine ⟨?_, h1 ▸ h3⟩
  rw [e]
  congr 1
  rw [← h1]
  unfold unB
  generalize s.data.toList = l at hl
  match l, hl with
  | [a, b, c, d], _ => exact (be4_numOf a b c d).symm

theorem rtext_un {b s b' : ByteArray} (h : rtextF b true = (s, b', true)) : unB b = tx s ++ unB b' ∧ s.size ≤ 2147483647 := by
  unfold rtextF at h
  generalize hn : numF b true = t at h
  obtain ⟨n, b1, f⟩ := t
  simp only at h
  obtain rfl := takeF_false_of h
  obtain ⟨e1, h1⟩ := num_un hn
  obtain ⟨e2, h2⟩ := take_un h
  subst h2
  exact ⟨by rw [e1, e2, tx, List.append_assoc]; rfl, h1⟩

theorem flag_un {b b' : ByteArray} {x : Bool} (h : flagF b true = (x, b', true)) : unB b = fl x ++ unB b' := by
  unfold flagF at h
  generalize ht : takeF b true 1 = t at h
  obtain ⟨s, b1, f⟩ := t
  simp only at h
  injection h with h1 h
  injection h with h2 h3
  simp only [Bool.and_eq_true, Bool.or_eq_true, decide_eq_true_eq] at h3
  obtain ⟨rfl, h3⟩ := h3
  subst h2
  obtain ⟨e, hs⟩ := take_un ht
  rw [e]
  congr 1
  unfold unB
  rcases h3 with h3 | h3
  · rw [h3] at h1 ⊢
    rw [← h1]
    rfl
  · rw [h3] at h1 ⊢
    rw [← h1]
    rfl

theorem many_un {b b' : ByteArray} {n : Nat} (h : manyF b true = (n, b', true)) : unB b = be4 n ++ unB b' ∧ n ≤ 5000 := by
  unfold manyF at h
  injection h with h1 h
  injection h with h2 h3
  simp only [Bool.and_eq_true, decide_eq_true_eq] at h3
  have e : numF b true = (n, b', true) := Prod.ext h1 (Prod.ext h2 h3.1)
  exact ⟨(num_un e).1, h1 ▸ h3.2⟩

theorem flagF_true_of {b b' : ByteArray} {f x : Bool} (h : flagF b f = (x, b', true)) : f = true := by
  cases f with
  | true => rfl
  | false => have := flagF_false b; rw [h] at this; cases this
theorem rtextF_true_of {b b' s : ByteArray} {f : Bool} (h : rtextF b f = (s, b', true)) : f = true := by
  cases f with
  | true => rfl
  | false => have := rtextF_false' b; rw [h] at this; cases this

theorem deps_un {b' : ByteArray} {acc' : List S43} : ∀ (n : Nat) (b : ByteArray) (f : Bool) (acc : List S43), depsF n b f acc = (acc', b', true) → ∃ l, acc' = acc ++ l ∧ l.length = n ∧ unB b = l.flatMap depB ++ unB b' ∧ (∀ d ∈ l, bareP d = false ∧ d.f0.size ≤ 2147483647 ∧ d.f2.size ≤ 2147483647) ∧ f = true
  | 0, b, f, acc, h => by
    unfold depsF at h
    injection h with h1 h
    injection h with h2 h3
    subst h1 h2
    exact ⟨[], by simp, rfl, rfl, by simp, h3⟩
  | n + 1, b, f, acc, h => by
    unfold depsF at h
    simp only at h
    generalize h1 : rtextF b f = t1 at h
    obtain ⟨x0, b1, f1⟩ := t1
    simp only at h
    generalize h2 : flagF b1 f1 = t2 at h
    obtain ⟨x1, b2, f2⟩ := t2
    simp only at h
    generalize h3 : rtextF b2 f2 = t3 at h
    obtain ⟨x2, b3, f3⟩ := t3
    simp only at h
    split at h
    · rename_i hc
      obtain ⟨rfl, hb⟩ := hc
      obtain rfl := rtextF_true_of h3
      obtain rfl := flagF_true_of h2
      obtain rfl := rtextF_true_of h1
      obtain ⟨l, e1, e2, e3, e4, _⟩ := deps_un n b3 true _ h
      obtain ⟨u1, s1⟩ := rtext_un h1
      have u2 := flag_un h2
      obtain ⟨u3, s3⟩ := rtext_un h3
      refine ⟨⟨x0, x1, x2⟩ :: l, by rw [e1]; simp, by simp [e2], ?_, ?_, rfl⟩
      · rw [u1, u2, u3, e3]
        simp [depB]
      · intro d hd
        rcases List.mem_cons.1 hd with rfl | hd
        · exact ⟨hb, s1, s3⟩
        · exact e4 d hd
    · injection h with _ h
      injection h with _ h
      cases h

theorem split_un {b t : ByteArray} {l : List S43} {e : Int} (h : splitF b = (t, l, e)) (he : e = 0) : keyF t l = (b, 0) := by
  subst he
  unfold splitF at h
  simp only at h
  split at h
  · rename_i hc
    obtain ⟨hc1, hc2⟩ := hc
    generalize h1 : rtextF b true = t1 at h hc1 hc2
    obtain ⟨x, b1, f1⟩ := t1
    simp only at h hc1 hc2
    generalize h2 : manyF b1 f1 = t2 at h hc1 hc2
    obtain ⟨n, b2, f2⟩ := t2
    simp only at h hc1 hc2
    generalize h3 : depsF n b2 f2 [] = t3 at h hc1 hc2
    obtain ⟨acc, b3, f3⟩ := t3
    simp only at h hc1 hc2
    subst hc1
    injection h with e1 h
    injection h with e2 _
    subst e1 e2
    obtain ⟨l, r1, r2, r3, r4, rfl⟩ := deps_un n b2 f2 [] h3
    have hf1 : f1 = true := by
      cases f1 with
      | true => rfl
      | false => have := manyF_false b1; rw [h2] at this; cases this
    subst hf1
    obtain ⟨u1, s1⟩ := rtext_un h1
    obtain ⟨u2, s2⟩ := many_un h2
    have hz : unB b3 = [] := List.eq_nil_of_length_eq_zero (by rw [unB_length]; exact bytes_size hc2)
    have hl : acc = l := by rw [r1]; rfl
    subst hl
    unfold keyF
    rw [if_neg]
    · refine Prod.ext (unB_inj ?_) rfl
      rw [show unB (⟨(keyB x acc).toArray⟩ : ByteArray) = keyB x acc from unB_mk _, u1, u2, r3, hz, keyB, r2]
      simp
    · rintro (h5 | h5)
      · omega
      · rw [List.any_eq_true] at h5
        obtain ⟨d, hd, hb⟩ := h5
        rw [(r4 d hd).1] at hb
        cases hb
  · injection h with _ h
    injection h with _ h
    cases h

theorem diags_mk (ys : List UInt8) : ∀ (l acc : List S45), (∀ d ∈ l, wildP d = false) → diagsF l.length (mkB (l.flatMap diagB ++ ys)) true acc = (acc ++ l, mkB ys, true)
  | [], acc, _ => by simp [diagsF]
  | d :: l, acc, h => by
    obtain ⟨h1, h2, h3, h4⟩ := wild_not (h d List.mem_cons_self)
    have e1 : (d :: l).flatMap diagB ++ ys = be4 d.f0.toNat ++ (be4 d.f1.toNat ++ (l.flatMap diagB ++ ys)) := by simp [diagB]
    rw [e1, List.length_cons]
    unfold diagsF
    rw [if_pos rfl, num_mk _ (by omega)]
    simp only
    rw [num_mk _ (by omega)]
    simp only
    rw [Int.toNat_of_nonneg h1, Int.toNat_of_nonneg h3, diags_mk ys l _ (fun x hx => h x (List.mem_cons_of_mem _ hx))]
    simp

theorem unpack_mk (l : List S45) (has : Bool) (ex : ByteArray) (hx : ex.size ≤ 2147483647) (h : packBad l has ex = false) : unpackF (mkB (packB l has ex)) = (l, has, ex, 0) := by
  unfold packBad at h
  simp only [Bool.or_eq_false_iff, decide_eq_false_iff_not] at h
  obtain ⟨⟨h1, h2⟩, h3⟩ := h
  rw [List.any_eq_false] at h2
  have e1 : packB l has ex = be4 l.length ++ (l.flatMap diagB ++ (fl has ++ (tx ex ++ []))) := by simp [packB]
  rw [unpackF_T, e1, many_mk _ (by omega)]
  simp only
  rw [diags_mk _ l [] (fun d hd => by simpa using h2 d hd)]
  unfold unpackT
  simp only
  rw [flag_mk]
  simp only
  rw [rtext_mk _ hx]
  simp only
  rw [if_pos ⟨trivial, bytes_empty (by rw [mkB_size]; rfl), by cases has <;> simp_all⟩]
  rfl

theorem numF_true_of {b b' : ByteArray} {f : Bool} {n : Nat} (h : numF b f = (n, b', true)) : f = true := by
  cases f with
  | true => rfl
  | false => have := numF_false b; rw [h] at this; cases this

theorem diags_un {b' : ByteArray} {acc' : List S45} : ∀ (n : Nat) (b : ByteArray) (f : Bool) (acc : List S45), diagsF n b f acc = (acc', b', true) → ∃ l, acc' = acc ++ l ∧ l.length = n ∧ unB b = l.flatMap diagB ++ unB b' ∧ (∀ d ∈ l, wildP d = false) ∧ f = true
  | 0, b, f, acc, h => by
    unfold diagsF at h
    injection h with h1 h
    injection h with h2 h3
    subst h1 h2
    exact ⟨[], by simp, rfl, rfl, by simp, h3⟩
  | n + 1, b, f, acc, h => by
    unfold diagsF at h
    split at h
    · rename_i hf
      subst hf
      obtain ⟨l, e1, e2, e3, e4, e5⟩ := diags_un n _ _ _ h
      generalize h1 : numF b true = t1 at *
      obtain ⟨x0, b1, f1⟩ := t1
      simp only at e1 e3 e5
      generalize h2 : numF b1 f1 = t2 at *
      obtain ⟨x1, b2, f2⟩ := t2
      simp only at e1 e3 e5
      subst e5
      obtain rfl := numF_true_of h2
      obtain ⟨u1, s1⟩ := num_un h1
      obtain ⟨u2, s2⟩ := num_un h2
      refine ⟨⟨x0, x1⟩ :: l, by rw [e1]; simp, by simp [e2], ?_, ?_, rfl⟩
      · rw [u1, u2, e3]
        simp [diagB]
      · intro d hd
        rcases List.mem_cons.1 hd with rfl | hd
        · unfold wildP
          simp only [Bool.or_eq_false_iff, decide_eq_false_iff_not]
          omega
        · exact e4 d hd
    · injection h with _ h
      injection h with _ h
      cases h

theorem unpack_un {b ex : ByteArray} {l : List S45} {has : Bool} {e : Int} (h : unpackF b = (l, has, ex, e)) (he : e = 0) : packF l has ex = (b, 0) := by
  subst he
  rw [unpackF_T] at h
  unfold unpackT at h
  split at h
  · rename_i hc
    obtain ⟨hc1, hc2, hc3⟩ := hc
    generalize h2 : manyF b true = t2 at *
    obtain ⟨n, b2, f2⟩ := t2
    simp only at h hc1 hc2 hc3
    generalize h3 : diagsF n b2 f2 [] = t3 at *
    obtain ⟨acc, b3, f3⟩ := t3
    simp only at h hc1 hc2 hc3
    generalize h4 : flagF b3 f3 = t4 at *
    obtain ⟨x, b4, f4⟩ := t4
    simp only at h hc1 hc2 hc3
    generalize h5 : rtextF b4 f4 = t5 at *
    obtain ⟨t, b5, f5⟩ := t5
    simp only at h hc1 hc2 hc3
    subst hc1
    obtain rfl := rtextF_true_of h5
    obtain rfl := flagF_true_of h4
    injection h with e1 h
    injection h with e2 h
    injection h with e3 _
    subst e1 e2 e3
    obtain ⟨l, r1, r2, r3, r4, rfl⟩ := diags_un n b2 f2 [] h3
    obtain ⟨u2, s2⟩ := many_un h2
    have u4 := flag_un h4
    obtain ⟨u5, s5⟩ := rtext_un h5
    have hz : unB b5 = [] := List.eq_nil_of_length_eq_zero (by rw [unB_length]; exact bytes_size hc2)
    have hl : acc = l := by rw [r1]; rfl
    subst hl
    unfold packF
    rw [if_neg]
    · refine Prod.ext (unB_inj ?_) rfl
      rw [show unB (⟨(packB acc x t).toArray⟩ : ByteArray) = packB acc x t from unB_mk _, u2, r3, u4, u5, hz, packB, r2]
      simp
    · unfold packBad
      have hw : acc.any wildP = false := by rw [List.any_eq_false]; intro d hd; rw [r4 d hd]; simp
      rw [hw, decide_eq_false (by omega)]
      cases x with
      | true => simp
      | false =>
        have hc4 : t.toList.isEmpty = true := by simpa using hc3
        rw [hc4]
        simp
  · injection h with _ h
    injection h with _ h
    injection h with _ h
    cases h
end Go.Proofs.Ytnafeapbglflnaa
