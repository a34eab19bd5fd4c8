/- lex: token. -/
import Derived.Test.YtlmggfbpdciioaaDoorLxC
namespace Go.Proofs.YtlmggfbpdciioaaDoor
open Go.RowKit
set_option linter.unusedVariables false

/-- What token hands back. -/
def TokPost (r : Nat × Nat × Nat) (a : Nat) (w : World) (e : Ending) (w' : World) : Prop :=
  ∃ kd at_ en, e = .returned (.tuple #[tkV kd at_ en ByteArray.empty, .int .i64 (r.2.2 : Int)]) ∧ (r.2.2 = 0 → kd = r.1 ∧ at_ = a ∧ en = a + r.2.1) ∧ Below w.heap.size w w'

theorem token_end {r : Nat × Nat × Nat} {a : Nat} {w W : World} {act : Act} {h : Nat} (kd at_ en x : Nat) (hR : W.heap[h]? = some (.cells #[.int .i64 (kd : Int), .int .i64 (at_ : Int), .int .i64 (en : Int), .string ByteArray.empty] 31 (0, 0)))
    (hp : act.tmps.getD 6 undef = .pointer (some ⟨h, 0, none⟩)) (hu : act.tmps.getD 7 undef = .int .i64 (x : Int)) (hd : act.defers = []) (hx : r.2.2 = x) (hk : x = 0 → kd = r.1 ∧ at_ = a ∧ en = a + r.2.1) (hb : Below w.heap.size w W) :
    bodyPost Tryd.prog Tryd.f38 (TokPost r a w) .ret act W :=
  tok_end rfl hR hp hu hd ⟨kd, at_, en, by rw [hx]; rfl, fun h => hk (hx.symm.trans h), hb⟩

set_option maxHeartbeats 1000000 in
theorem token_letter (s : ByteArray) (hs : s.size ≤ 9223372036854775806) (a : Nat) (ha : a < s.size) (b : Nat) (w : World) (hS : SMap Tryd.prog 9 w b 17 (isWordF 17)) (hl : letterB s[a] = true) :
    Calls Tryd.prog 38 #[.string s, .int .i64 (a : Int), .map (some b)] w (TokPost (tokC s[a] (s.data.toList.drop (a + 1))) a w) := by
  have hp : partB s[a] = true := by unfold partB; rw [hl]; rfl
  have hd := drop_at s a ha
  have hwh := wh_cons partB s[a] (s.data.toList.drop (a + 1))
  rw [if_pos hp] at hwh
  have hle := wh_le partB (s.data.toList.drop (a + 1))
  rw [List.length_drop, len_toList] at hle
  have htok : tokC s[a] (s.data.toList.drop (a + 1)) = (if wordB (s[a] :: (s.data.toList.drop (a + 1)).take (wh partB (s.data.toList.drop (a + 1)))) then 5 else 1, wh partB (s.data.toList.drop (a + 1)) + 1, if wh partB (s.data.toList.drop (a + 1)) + 1 > 40 then 4 else 0) := by
    unfold tokC
    rw [if_pos hl]
  have hx : ∀ m, (s.extract a (a + (m + 1))).data.toList = s[a] :: (s.data.toList.drop (a + 1)).take m := by
    intro m
    rw [Lib.extract_data, hd, show a + (m + 1) - a = m + 1 by omega, List.take_succ_cons]
  have hW := while_any 53 partB part_is (enters_of Tryd.func53 (by kernel_rfl) rfl) s hs a (by omega)
  rw [hd, hwh] at hW
  rw [htok]
  generalize wh partB (s.data.toList.drop (a + 1)) = m at *
  have hx := hx m
  obtain ⟨k, hk⟩ : ∃ k, k = a + (m + 1) := ⟨_, rfl⟩
  rw [← hk] at hW hx
  rw [← hx]
  have hL := letter_is s[a]
  rw [hl] at hL
  have HL := Lib.hid hL
  have HW := Lib.hid hW
  have HS := Lib.hid hS
  have hks : k ≤ s.size := by omega
  have hka : a < k := by omega
  have hm40 : m + 1 > 40 ↔ 40 < k - a := by omega
  have hsz : (s.extract a k).size ≤ maxLen := by simp only [maxLen]; rw [ByteArray.size_extract]; omega
  have hv := isWord_get (s.extract a k).data.toList
  have HSZ := Lib.hid hsz
  have HK := Lib.hid hk
  simp only [hm40]
  generalize wordB (s.extract a k).data.toList = wb at *
  have HV := Lib.hid hv
  obtain ⟨r, hr⟩ : ∃ r, r = (if wb = true then 5 else 1, m + 1, if 40 < k - a then 4 else 0) := ⟨_, rfl⟩
  rw [← hr]
  have HR := Lib.hid hr
  clear hL hW hx hwh hd htok hS hp hl hk hm40 hsz hle hv hr
  clear hx
  cases wb
  · by_cases h40 : (40 : Int) < (k : Int) - (a : Int)
    · go_enter Tryd.func38, Tryd.ntmps38
      go_wp2_with (first | (go_at_call 52; refine (HL.out _).mono ?_; rintro e w' ⟨rfl, rfl⟩) | (go_at_call 47; refine (HW.out _).mono ?_; rintro e w' ⟨rfl, rfl⟩) | (at_lookup; refine wpList_look_smap rfl _ _ 50 rfl 9 4 Tryd.underlying9 Tryd.underlying50 b 17 (isWordF 17) rfl ((HS.out.alloc _).alloc _) (Tryd.zeroValue4 _) (s.extract a k) HSZ.out (.bool _) rfl HV.out ?_))
      exact token_end 1 a k 4 (blk_alloc (blk_new w _) _) rfl rfl rfl (by rw [HR.out]; show (if 40 < k - a then 4 else 0) = 4; exact if_pos (by omega)) (fun h => by cases h) (bel_alloc (bel_alloc (Below.refl _ _) _) _)
    · go_enter Tryd.func38, Tryd.ntmps38
      go_wp2_with (first | (go_at_call 52; refine (HL.out _).mono ?_; rintro e w' ⟨rfl, rfl⟩) | (go_at_call 47; refine (HW.out _).mono ?_; rintro e w' ⟨rfl, rfl⟩) | (at_lookup; refine wpList_look_smap rfl _ _ 50 rfl 9 4 Tryd.underlying9 Tryd.underlying50 b 17 (isWordF 17) rfl ((HS.out.alloc _).alloc _) (Tryd.zeroValue4 _) (s.extract a k) HSZ.out (.bool _) rfl HV.out ?_))
      exact token_end 1 a k 0 (blk_alloc (blk_new w _) _) rfl rfl rfl (by rw [HR.out]; show (if 40 < k - a then 4 else 0) = 0; exact if_neg (by omega)) (fun h => ⟨by rw [HR.out]; rfl, rfl, by rw [HR.out]; exact HK.out⟩) (bel_alloc (bel_alloc (Below.refl _ _) _) _)
  · by_cases h40 : (40 : Int) < (k : Int) - (a : Int)
    · go_enter Tryd.func38, Tryd.ntmps38
      go_wp2_with (first | (go_at_call 52; refine (HL.out _).mono ?_; rintro e w' ⟨rfl, rfl⟩) | (go_at_call 47; refine (HW.out _).mono ?_; rintro e w' ⟨rfl, rfl⟩) | (at_lookup; refine wpList_look_smap rfl _ _ 50 rfl 9 4 Tryd.underlying9 Tryd.underlying50 b 17 (isWordF 17) rfl ((HS.out.alloc _).alloc _) (Tryd.zeroValue4 _) (s.extract a k) HSZ.out (.bool _) rfl HV.out ?_))
      exact token_end 5 a k 4 (blk_alloc (blk_new w _) _) rfl rfl rfl (by rw [HR.out]; show (if 40 < k - a then 4 else 0) = 4; exact if_pos (by omega)) (fun h => by cases h) (bel_alloc (bel_alloc (Below.refl _ _) _) _)
    · go_enter Tryd.func38, Tryd.ntmps38
      go_wp2_with (first | (go_at_call 52; refine (HL.out _).mono ?_; rintro e w' ⟨rfl, rfl⟩) | (go_at_call 47; refine (HW.out _).mono ?_; rintro e w' ⟨rfl, rfl⟩) | (at_lookup; refine wpList_look_smap rfl _ _ 50 rfl 9 4 Tryd.underlying9 Tryd.underlying50 b 17 (isWordF 17) rfl ((HS.out.alloc _).alloc _) (Tryd.zeroValue4 _) (s.extract a k) HSZ.out (.bool _) rfl HV.out ?_))
      exact token_end 5 a k 0 (blk_alloc (blk_new w _) _) rfl rfl rfl (by rw [HR.out]; show (if 40 < k - a then 4 else 0) = 0; exact if_neg (by omega)) (fun h => ⟨by rw [HR.out]; rfl, rfl, by rw [HR.out]; exact HK.out⟩) (bel_alloc (bel_alloc (Below.refl _ _) _) _)
end Go.Proofs.YtlmggfbpdciioaaDoor
