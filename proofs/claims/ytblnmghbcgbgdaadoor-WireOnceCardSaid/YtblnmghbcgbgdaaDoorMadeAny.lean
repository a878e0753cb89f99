/-
  Whatever message it is given, made makes some message that may be; wire's law of being awake.
  Conditions: none.
-/
import Derived.Test.YtblnmghbcgbgdaaDoorMade
import Derived.Test.YtblnmghbcgbgdaaDoorWireBytes
namespace Go.Proofs.YtblnmghbcgbgdaaDoor
open Go.RowKit Nums
set_option linter.unusedVariables false
set_option linter.unusedSimpArgs false

theorem tmod9 (n : Int) : -9 < n.tmod 9 ∧ n.tmod 9 < 9 := by
  rw [Int.tmod_eq_emod]
  split <;> simp <;> omega
theorem made_any (m : Raw) (hb : m.body.size ≤ 1000) (hp : m.path.size ≤ 1000) : ∃ x : Ms, x.ok ∧ ∀ w, Calls Tryd.prog 8 #[.agg m.val] w (Makes x w) := by
  obtain ⟨kd, g, s, key, body, path, n, c⟩ := m
  dsimp only [Raw.val] at hb hp ⊢
  obtain ⟨q, hq⟩ : ∃ q, kd.tmod 9 = q := ⟨_, rfl⟩
  have ht := tmod9 kd
  rw [hq] at ht
  obtain ⟨hq1, hq2⟩ := ht
  obtain ⟨L, hL0⟩ : ∃ L, L = (cutB path 16).data.toList := ⟨_, rfl⟩
  have hL : Hid (cutB path 16 = ⟨L.toArray⟩) := Lib.hid (by rw [hL0])
  have hL16 : L.length ≤ 16 := by have := cutB_size path 16; rw [hL0]; simpa using this
  have hpL : pathL (L.map mk15) := pathL_of _ (by simpa using hL16) (fun b hb => by obtain ⟨a, _, rfl⟩ := List.mem_map.mp hb; exact mk15_lt a)
  have hB60 : (cutB body 60).data.toList.length ≤ 60 := by have := cutB_size body 60; simpa using this
  have hc : (q + 9) % 9 = 0 ∨ (q + 9) % 9 = 1 ∨ (q + 9) % 9 = 2 ∨ (q + 9) % 9 = 3 ∨ (q + 9) % 9 = 4 ∨ (q + 9) % 9 = 5 ∨ (q + 9) % 9 = 6 ∨ (q + 9) % 9 = 7 ∨ (q + 9) % 9 = 8 := by omega
  obtain ⟨n15, hn15, ln15⟩ := and_le n 15 (by omega)
  obtain ⟨g30, hg30, lg30⟩ := and_le g 1073741824 (by omega)
  obtain ⟨s16, hs16, ls16⟩ := and_le s 65535 (by omega)
  obtain ⟨g8, hg8, lg8⟩ := and_le g 255 (by omega)
  obtain ⟨c20, hc20, lc20⟩ := and_le c 1048575 (by omega)
  rcases hc with h | h | h | h | h | h | h | h | h
  · exact ⟨.bare 1, .inl rfl, fun w => made_1 kd g s key body path n c L q w hq hq1 hq2 h hL hL16 hp hb⟩
  · exact ⟨.path 2 (L.map mk15), ⟨.inl rfl, hpL⟩, fun w => made_2 kd g s key body path n c L q w hq hq1 hq2 h hL hL16 hp hb⟩
  · exact ⟨.refuse n15, ln15, fun w => made_3 kd g s key body path n c L q n15 w hq hq1 hq2 h hL hL16 hp hb hn15⟩
  · exact ⟨.path 4 (L.map mk15), ⟨.inr rfl, hpL⟩, fun w => made_4 kd g s key body path n c L q w hq hq1 hq2 h hL hL16 hp hb⟩
  · exact ⟨.alive ((g30 : Int) - 1) ((s16 : Int) - 1) key, ⟨⟨by omega, by omega⟩, by omega, by omega⟩, fun w => made_5 kd g s key body path n c L q g30 s16 w hq hq1 hq2 h hL hL16 hp hb hg30 hs16 lg30 ls16⟩
  · exact ⟨.frame g8 s16 key (cutB body 60).data.toList, ⟨by omega, by omega, by omega⟩, fun w => made_6 kd g s key body path n c L q g8 s16 w hq hq1 hq2 h hL hL16 hp hb hg8 hs16 lg8 ls16⟩
  · exact ⟨.bare 7, .inr rfl, fun w => made_7 kd g s key body path n c L q w hq hq1 hq2 h hL hL16 hp hb⟩
  · exact ⟨.hand 8 (L.map mk15) n15 c20, ⟨.inl rfl, hpL, ln15, by omega⟩, fun w => made_8 kd g s key body path n c L q n15 c20 w hq hq1 hq2 h hL hL16 hp hb hn15 hc20⟩
  · exact ⟨.hand 9 (L.map mk15) n15 c20, ⟨.inr rfl, hpL, ln15, by omega⟩, fun w => made_9 kd g s key body path n c L q n15 c20 w hq hq1 hq2 h hL hL16 hp hb hn15 hc20⟩
theorem enc_r3 : (Ms.refuse 3).enc = [6, 6] := by
  show put [3] ++ put [3] = _
  simp only [put, List.flatMap_cons, List.flatMap_nil, fold]
  simp only [show (0 : Int) ≤ 3 from by decide, if_true, show (2 * 3 : Int).toNat = 6 from rfl]
  rw [enc_lt (by decide)]
  rfl
set_option maxRecDepth 100000 in
theorem awake_any (w : World) : Calls Tryd.prog 7 #[] w fun e w' => e = .returned (.bool true) ∧ Fr noneOf w w' := by
  have HB : Hid (∀ w, Calls Tryd.prog 10 #[.agg #[.int .i64 3, .int .i64 0, .int .i64 0, .bool false, .string ⟨#[]⟩, .string ⟨#[]⟩, .int .i64 3, .int .i64 0]] w fun e w' => e = .returned (.tuple #[.string (wrapB ⟨#[6, 6]⟩), .nilIface]) ∧ Fr noneOf w w') := Lib.hid (fun w => by have h := bytes_ok (.refuse 3) (by show 3 ≤ 15; omega) w; unfold Wrote at h; rw [enc_r3] at h; exact h)
  have HO := Lib.hid (fun w => open_wrapped ⟨#[6, 6]⟩ w (by decide))
  obtain ⟨S, hS⟩ : ∃ S, S = wrapB ⟨#[6, 6]⟩ := ⟨_, rfl⟩
  rw [← hS] at HB HO
  clear hS
  go_enter Tryd.func7, Tryd.ntmps7
  go_wp2_with (first
    | (go_at_call 10; (with_reducible refine (HB.out _).mono ?_); rintro e w1 ⟨rfl, hf1⟩; have HF1 := Lib.hid hf1; clear hf1)
    | (go_at_call 25; (with_reducible refine (HO.out _).mono ?_); rintro e w2 ⟨rfl, hf2⟩; have HF2 := Lib.hid hf2; clear hf2)
    | (go_at_call 11; have hh := HF3; clear hh; (with_reducible refine (code_nil _).mono ?_); rintro e w4 ⟨rfl, hf4⟩; have HF4 := Lib.hid hf4; clear hf4)
    | (go_at_call 11; (with_reducible refine (code_nil _).mono ?_); rintro e w3 ⟨rfl, hf3⟩; have HF3 := Lib.hid hf3; clear hf3))
  go_ret
  refine ⟨by first | rfl | simp, ?_⟩
  repeat (first | exact HF1.out | exact ((HF1.out.trans HF2.out).trans HF3.out).trans HF4.out)
end Go.Proofs.YtblnmghbcgbgdaaDoor
