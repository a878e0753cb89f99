/-
  FaultNone: the walk.
-/
import Derived.Test.YtlggiinembadfaaDoorFaultAwake
namespace Go.Proofs.YtlggiinembadfaaDoor
open Go.RowKit Go.Extern.Stop Go.Stop Go.Extern
set_option linter.unusedVariables false
set_option linter.unusedSimpArgs false

theorem nils_at (w : World) (g : Nat) (hg : g = w.heap.size) : (w.alloc (.cells #[.nilIface, .nilIface] 25)).cell? ⟨g, 0, none⟩ = some .nilIface ∧ (w.alloc (.cells #[.nilIface, .nilIface] 25)).cell? ⟨g, 0 + 1, none⟩ = some .nilIface := by
  subst hg
  have h := Blk.new w 25 #[.nilIface, .nilIface]
  exact ⟨h.cell 0, h.cell 1⟩
theorem text_some3 (T : ByteArray) (h : 0 < T.size) : ¬ T.toList = [] := by
  intro e
  rw [ByteArray.toList_eq] at e
  have h2 : T.data.toList.length = T.size := by simp
  rw [e] at h2
  simp at h2
  omega
theorem text_some (T : ByteArray) (h : 0 < T.size) : (T.toList == []) = false := by simpa using text_some3 T h
theorem text_some2 (T : ByteArray) (h : 0 < T.size) : T.toList.isEmpty = false := by
  have := text_some3 T h
  cases hl : T.toList with
  | nil => exact absurd hl this
  | cons a l => rfl
set_option maxRecDepth 100000 in
set_option maxHeartbeats 4000000 in
theorem faultNone_any (place : Int) (word : ByteArray) (code : Int) (w : World) (hp0 : -9223372036854775808 ≤ place) (hp1 : place ≤ 9223372036854775807) (hw : word.size ≤ 9223372036854775807) (h0 : -9223372036854775808 ≤ code) (h1 : code ≤ 9223372036854775807) (hg : errT w) :
    Calls Tryd.prog 3 #[.int .i64 place, .string word, .int .i64 code] w fun e w' => e = .returned (.bool true) ∧ Fr noneOf w w' := by
  have HG := Lib.hid hg
  clear hp0 hp1 hg
  by_cases h20 : 20 < word.size
  · have h20I : (20 : Int) < (word.size : Int) := by omega
    by_cases hc : code = 0
    · subst hc
      clear h0 h1
      go_enter Tryd.func3, Tryd.ntmps3
      go_wp2_with (first
        | (go_at_call 4; (with_reducible refine (awake_any _).mono ?_); rintro e w1 ⟨rfl, hf1⟩; have HF1 := Lib.hid hf1; have HG1 := Lib.hid (HG.out.fr hf1); clear hf1)
        | (go_at_call 8; (with_reducible refine (fnew_no _).mono ?_); rintro e w' ⟨rfl, rfl⟩)
        | (go_at_call 7; (refine (fjoin_nils _ _ 0 2 _ rfl (nils_at _ _ rfl).1 (nils_at _ _ rfl).2).mono ?_); rintro e w' ⟨rfl, rfl⟩)
        | (go_at_call 6; (with_reducible refine (fat_nil _ _).mono ?_); rintro e w' ⟨rfl, rfl⟩)
        | (go_at_call 5; (with_reducible refine (fin_nil _ _).mono ?_); rintro e w' ⟨rfl, rfl⟩)
        | (go_at_call 9; (with_reducible refine (place_nil _).mono ?_); rintro e w' ⟨rfl, rfl⟩)
        | (go_at_call 11; (with_reducible refine (ftext_nil _).mono ?_); rintro e w' ⟨rfl, rfl⟩)
        | (go_at_call 12; (with_reducible refine (path_nil _).mono ?_); rintro e w' ⟨rfl, rfl⟩)
        | (go_at_call 13; (with_reducible refine (is_nil0 _).mono ?_); rintro e w' ⟨rfl, rfl⟩)
        | (go_at_call 10; have hh := HFa; clear hh; (with_reducible refine (code_nil _).mono ?_); rintro e w3 ⟨rfl, hf3⟩; have HFb := Lib.hid hf3; clear hf3)
        | (go_at_call 10; (with_reducible refine (code_nil _).mono ?_); rintro e w2 ⟨rfl, hf2⟩; have HFa := Lib.hid hf2; clear hf2))
      go_ret
      exact ⟨rfl, ((HF1.out.alloc _).trans HFa.out).trans HFb.out⟩
    · have hc0 : (code == 0) = false := by simpa using hc
      have HBD := Lib.hid (And.intro h0 h1)
      clear h0 h1 hc
      go_enter Tryd.func3, Tryd.ntmps3
      go_wp2_with (first
        | (go_at_call 4; (with_reducible refine (awake_any _).mono ?_); rintro e w1 ⟨rfl, hf1⟩; have HF1 := Lib.hid hf1; have HG1 := Lib.hid (HG.out.fr hf1); clear hf1)
        | (go_at_call 8; (with_reducible refine (fnew_no _).mono ?_); rintro e w' ⟨rfl, rfl⟩)
        | (go_at_call 7; (refine (fjoin_nils _ _ 0 2 _ rfl (nils_at _ _ rfl).1 (nils_at _ _ rfl).2).mono ?_); rintro e w' ⟨rfl, rfl⟩)
        | (go_at_call 6; (with_reducible refine (fat_nil _ _).mono ?_); rintro e w' ⟨rfl, rfl⟩)
        | (go_at_call 5; (with_reducible refine (fin_nil _ _).mono ?_); rintro e w' ⟨rfl, rfl⟩)
        | (go_at_call 9; (with_reducible refine (place_nil _).mono ?_); rintro e w' ⟨rfl, rfl⟩)
        | (go_at_call 11; (with_reducible refine (ftext_nil _).mono ?_); rintro e w' ⟨rfl, rfl⟩)
        | (go_at_call 12; (with_reducible refine (path_nil _).mono ?_); rintro e w' ⟨rfl, rfl⟩)
        | (go_at_call 8; (with_reducible refine (fnew_yes code _ hc0).mono ?_); rintro e w' ⟨rfl, rfl⟩)
        | (go_at_call 13; (with_reducible refine (is_nil code _ hc0).mono ?_); rintro e w' ⟨rfl, rfl⟩)
        | (go_at_call 10; (with_reducible refine (code_nil _).mono ?_); rintro e w2 ⟨rfl, hf2⟩; have HFa := Lib.hid hf2; have HG2 := Lib.hid ((HG1.out.fr ((Fr.refl noneOf w1).alloc (.cells #[.nilIface, .nilIface] 25))).fr hf2); clear hf2)
        | (go_at_call 10; (with_reducible refine (code_num code _ HG2.out).mono ?_); rintro e w3 ⟨rfl, hf3⟩; have HFb := Lib.hid hf3; clear hf3)
        | (go_at_call 13; (with_reducible refine (is_same code _).mono ?_); rintro e w4 ⟨rfl, hf4⟩; have HFc := Lib.hid hf4; clear hf4)
        | (go_at_call 11; (refine (ftext_num code _ HBD.out.1 HBD.out.2).mono ?_); rintro e w5 ⟨T, rfl, ht1, ht2, hf5⟩; have HFd := Lib.hid hf5; have hT : (T.toList == []) = false := text_some T ht1; have hT2 : T.toList.isEmpty = false := text_some2 T ht1; have hT3 : ¬ T.toList = [] := text_some3 T ht1; clear hf5 ht1 ht2))
      go_ret
      exact ⟨rfl, ((((HF1.out.alloc _).trans HFa.out).trans HFb.out).trans HFc.out).trans HFd.out⟩
  · have h20I : ¬ (20 : Int) < (word.size : Int) := by omega
    by_cases hc : code = 0
    · subst hc
      clear h0 h1
      go_enter Tryd.func3, Tryd.ntmps3
      go_wp2_with (first
        | (go_at_call 4; (with_reducible refine (awake_any _).mono ?_); rintro e w1 ⟨rfl, hf1⟩; have HF1 := Lib.hid hf1; have HG1 := Lib.hid (HG.out.fr hf1); clear hf1)
        | (go_at_call 8; (with_reducible refine (fnew_no _).mono ?_); rintro e w' ⟨rfl, rfl⟩)
        | (go_at_call 7; (refine (fjoin_nils _ _ 0 2 _ rfl (nils_at _ _ rfl).1 (nils_at _ _ rfl).2).mono ?_); rintro e w' ⟨rfl, rfl⟩)
        | (go_at_call 6; (with_reducible refine (fat_nil _ _).mono ?_); rintro e w' ⟨rfl, rfl⟩)
        | (go_at_call 5; (with_reducible refine (fin_nil _ _).mono ?_); rintro e w' ⟨rfl, rfl⟩)
        | (go_at_call 9; (with_reducible refine (place_nil _).mono ?_); rintro e w' ⟨rfl, rfl⟩)
        | (go_at_call 11; (with_reducible refine (ftext_nil _).mono ?_); rintro e w' ⟨rfl, rfl⟩)
        | (go_at_call 12; (with_reducible refine (path_nil _).mono ?_); rintro e w' ⟨rfl, rfl⟩)
        | (go_at_call 13; (with_reducible refine (is_nil0 _).mono ?_); rintro e w' ⟨rfl, rfl⟩)
        | (go_at_call 10; have hh := HFa; clear hh; (with_reducible refine (code_nil _).mono ?_); rintro e w3 ⟨rfl, hf3⟩; have HFb := Lib.hid hf3; clear hf3)
        | (go_at_call 10; (with_reducible refine (code_nil _).mono ?_); rintro e w2 ⟨rfl, hf2⟩; have HFa := Lib.hid hf2; clear hf2))
      go_ret
      exact ⟨rfl, ((HF1.out.alloc _).trans HFa.out).trans HFb.out⟩
    · have hc0 : (code == 0) = false := by simpa using hc
      have HBD := Lib.hid (And.intro h0 h1)
      clear h0 h1 hc
      go_enter Tryd.func3, Tryd.ntmps3
      go_wp2_with (first
        | (go_at_call 4; (with_reducible refine (awake_any _).mono ?_); rintro e w1 ⟨rfl, hf1⟩; have HF1 := Lib.hid hf1; have HG1 := Lib.hid (HG.out.fr hf1); clear hf1)
        | (go_at_call 8; (with_reducible refine (fnew_no _).mono ?_); rintro e w' ⟨rfl, rfl⟩)
        | (go_at_call 7; (refine (fjoin_nils _ _ 0 2 _ rfl (nils_at _ _ rfl).1 (nils_at _ _ rfl).2).mono ?_); rintro e w' ⟨rfl, rfl⟩)
        | (go_at_call 6; (with_reducible refine (fat_nil _ _).mono ?_); rintro e w' ⟨rfl, rfl⟩)
        | (go_at_call 5; (with_reducible refine (fin_nil _ _).mono ?_); rintro e w' ⟨rfl, rfl⟩)
        | (go_at_call 9; (with_reducible refine (place_nil _).mono ?_); rintro e w' ⟨rfl, rfl⟩)
        | (go_at_call 11; (with_reducible refine (ftext_nil _).mono ?_); rintro e w' ⟨rfl, rfl⟩)
        | (go_at_call 12; (with_reducible refine (path_nil _).mono ?_); rintro e w' ⟨rfl, rfl⟩)
        | (go_at_call 8; (with_reducible refine (fnew_yes code _ hc0).mono ?_); rintro e w' ⟨rfl, rfl⟩)
        | (go_at_call 13; (with_reducible refine (is_nil code _ hc0).mono ?_); rintro e w' ⟨rfl, rfl⟩)
        | (go_at_call 10; (with_reducible refine (code_nil _).mono ?_); rintro e w2 ⟨rfl, hf2⟩; have HFa := Lib.hid hf2; have HG2 := Lib.hid ((HG1.out.fr ((Fr.refl noneOf w1).alloc (.cells #[.nilIface, .nilIface] 25))).fr hf2); clear hf2)
        | (go_at_call 10; (with_reducible refine (code_num code _ HG2.out).mono ?_); rintro e w3 ⟨rfl, hf3⟩; have HFb := Lib.hid hf3; clear hf3)
        | (go_at_call 13; (with_reducible refine (is_same code _).mono ?_); rintro e w4 ⟨rfl, hf4⟩; have HFc := Lib.hid hf4; clear hf4)
        | (go_at_call 11; (refine (ftext_num code _ HBD.out.1 HBD.out.2).mono ?_); rintro e w5 ⟨T, rfl, ht1, ht2, hf5⟩; have HFd := Lib.hid hf5; have hT : (T.toList == []) = false := text_some T ht1; have hT2 : T.toList.isEmpty = false := text_some2 T ht1; have hT3 : ¬ T.toList = [] := text_some3 T ht1; clear hf5 ht1 ht2))
      go_ret
      exact ⟨rfl, ((((HF1.out.alloc _).trans HFa.out).trans HFb.out).trans HFc.out).trans HFd.out⟩
end Go.Proofs.YtlggiinembadfaaDoor
