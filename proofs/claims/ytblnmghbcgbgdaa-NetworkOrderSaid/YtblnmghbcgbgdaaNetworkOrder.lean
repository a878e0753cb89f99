/-
  NetworkOrder: the walk.
-/
import Derived.Test.YtblnmghbcgbgdaaOrderP
import Derived.Test.YtblnmghbcgbgdaaLaw23
import Derived.Deep.DeepCutAuto
namespace Go.Proofs.Ytblnmghbcgbgdaa
open Go.RowKit
set_option linter.unusedVariables false
set_option linter.unusedSimpArgs false

set_option maxHeartbeats 8000000 in
theorem networkOrder_any (many at' : Int) (w : World) (h1 : I64 many) (h2 : I64 at') : Calls Try.prog 3 #[.int .i64 many, .int .i64 at'] w fun e w' => e = .returned (.bool true) ∧ Fr noneOf w w' := by
  obtain ⟨q, hq⟩ : ∃ q, many.tmod 12 = q := ⟨_, rfl⟩
  have hqb := tmod_lt many 12 (by decide)
  rw [show ((12 : Nat) : Int) = 12 by rfl, hq] at hqb
  obtain ⟨m1, hm1, hmm⟩ := turn q 12 (by decide) hqb
  rw [show ((12 : Nat) : Int) = 12 by rfl] at hmm
  obtain ⟨m, hm⟩ : ∃ m, m = 1 + m1 := ⟨_, rfl⟩
  have hmI : (1 : Int) + (m1 : Int) = (m : Int) := by omega
  have hm0 : 0 < m := by omega
  have hm12 : m ≤ 12 := by omega
  obtain ⟨hqb1, hqb2⟩ := hqb
  have hq1 : -12 < q := hqb1
  have hq2 : q < 12 := hqb2
  clear hm hm1 hqb1 hqb2
  have HI := Lib.hid (And.intro h1 h2)
  obtain ⟨h1a, h1b⟩ := h1
  obtain ⟨h2a, h2b⟩ := h2
  go_enter Try.func3, Try.ntmps3
  go_wp2_with (first
    | (go_at_call 6; (with_reducible refine (awake_any _).mono ?_); rintro e w1 ⟨rfl, hf1⟩)
    | (go_at_call 7; (with_reducible refine (net_new 12 _).mono ?_); rintro e w2 ⟨rfl, hN, hf2⟩; have HN2 := Lib.hid hN; clear hN))
  obtain ⟨T, hT⟩ : ∃ T : ByteArray, T = { data := #[97, 98, 99, 100, 101, 102, 103, 104, 105, 106, 107, 108] } := ⟨_, rfl⟩
  rw [← hT]
  have hT12 : T.size = 12 := by rw [hT]; rfl
  obtain ⟨base, hbase⟩ : ∃ base, base = w1.heap.size := ⟨_, rfl⟩
  obtain ⟨b, hb⟩ : ∃ b, b = w1.heap.size + 1 := ⟨_, rfl⟩
  rw [← hb, ← hbase] at HN2
  rw [← hb]
  have HSZ : Hid (base ≤ w2.heap.size) := Lib.hid (by rw [hbase]; exact hf2.size)
  have HF2 : Hid (Fr noneOf w w2 ∧ w.heap.size ≤ base) := Lib.hid ⟨hf1.trans hf2, by rw [hbase]; exact hf1.size⟩
  have HT := Lib.hid hT12
  clear hT hb hbase hf1 hf2 hT12
  go_loopw [9] (fun i wr => ∃ k : Nat, k ≤ m ∧ i = .int .i64 k ∧ ∃ f, f 1 2 = (k : Int) ∧ Nt base (min (max 12 1) 12) 0 (oL T k).length (pkCells (oL T k)) f b wr ∧ Fr (fun j => base ≤ j) w2 wr) (fun i _ => m - (intOf i).toNat)
  case atStart => exact ⟨0, Nat.zero_le _, rfl, _, rfl, HN2.out, Fr.refl _ _⟩
  case round =>
    obtain ⟨k, hk, rfl, f, hf, hN, hF⟩ := hrel
    have HN := Lib.hid (And.intro hf (And.intro hN hF))
    clear hf hN hF
    by_cases hlt : k < m
    · have hsz : (k : Int) + 1 ≤ (T.size : Int) := by have := HT.out; omega
      have HSE : Hid ((T.extract k (k + 1)).size = 1) := Lib.hid (by rw [ByteArray.size_extract]; have := HT.out; omega)
      have HS := Lib.hid (net_send (base := base) (n := (oL T k).length) (ps := pkCells (oL T k)) 1 2 (T.extract k (k + 1)) HN.out.2.1 (by unfold I64; omega) (by unfold I64; omega) (by rw [HSE.out]; decide) (by rw [HSE.out]; decide) (by rw [HN.out.1]; omega) (by decide) (by rw [HN.out.1]; omega) (by rw [oL_len]; omega) (by have := HN.out.2.2.size; have := HSZ.out; omega))
      go_wp2_with (go_at_call 8; (with_reducible refine HS.out.mono ?_); rintro e w3 ⟨rfl, hN3, hF3⟩; have HN3 := Lib.hid (And.intro hN3 hF3); clear hN3 hF3)
      go_roundw
      case rel =>
        refine ⟨k + 1, by omega, by go_num, upd f 1 2 (f 1 2 + 1), ?_, ?_, ?_⟩
        · simp [upd, HN.out.1]
        · have := HN3.out.1
          rw [← pkCells_snoc] at this
          rw [oL_succ, List.length_append]
          exact this
        · exact HN.out.2.2.trans' HN3.out.2 (fun i _ h => h)
      case measure => simp [intOf]; omega
    · obtain rfl : m = k := by omega
      obtain ⟨q2, hq2'⟩ : ∃ q2, at'.tmod (m : Int) = q2 := ⟨_, rfl⟩
      have hqb := tmod_lt at' m hm0
      rw [hq2'] at hqb
      obtain ⟨K, hK, hKK⟩ := turn q2 m hm0 hqb
      obtain ⟨hqb1, hqb2⟩ := hqb
      have hTK := (net_take (base := base) (i := K) HN.out.2.1 (oL_at T m K hK) (by show I64 1; unfold I64; omega) (by show I64 2; unfold I64; omega) (by show 1 ≤ f 1 2; rw [HN.out.1]; omega) (by show f 1 2 ≤ _; rw [HN.out.1]; omega) (by have := HN.out.2.2.size; have := HSZ.out; omega))
      have hsz : (K : Int) + 1 ≤ (T.size : Int) := by have := HT.out; omega
      dsimp only [oP] at hTK
      have HTK := Lib.hid hTK
      clear hTK
      go_upto_region 14 with (go_at_call 9; (with_reducible refine HTK.out.mono ?_); rintro e w3 ⟨rfl, hN3, hF3⟩; have HN3 := Lib.hid (And.intro hN3 hF3); clear hN3 hF3)
      obtain ⟨W3, hW3⟩ : ∃ W3, W3 = w3.alloc (Obj.cells #[Value.int IntKind.i64 1, Value.int IntKind.i64 2, Value.string (T.extract K (K + 1))] 27) := ⟨_, rfl⟩
      have HP3 := Lib.hid (Blk.new w3 27 #[Value.int IntKind.i64 1, Value.int IntKind.i64 2, Value.string (T.extract K (K + 1))])
      have hFA : Fr noneOf w3 W3 := by rw [hW3]; exact (Fr.refl noneOf w3).alloc _
      rw [← hW3] at HP3 ⊢
      obtain ⟨P3, hP3⟩ : ∃ P3, P3 = w3.heap.size := ⟨_, rfl⟩
      rw [← hP3] at HP3 ⊢
      have HNW := Lib.hid (And.intro (HN3.out.1.fr hFA) (HN3.out.2.trans' hFA (fun _ _ x => x.elim)))
      have HL : Hid (∀ w', Fr noneOf W3 w' → Calls Try.prog 10 #[.pointer (some ⟨b, 0, none⟩)] w' fun e w'' => e = .returned (.int .i64 ((m : Int) - 1)) ∧ w'' = w') := Lib.hid (fun w' hf => (net_len (HNW.out.1.fr hf)).mono fun e w'' ⟨h1, h2⟩ => ⟨by rw [h1, List.length_eraseIdx, oL_len, if_pos hK]; congr 2; omega, h2.symm⟩)
      clear hW3 hP3 hFA
      have c2 : W3.cell? ⟨P3, 2, none⟩ = some (.string (T.extract K (K + 1))) := HP3.out.cell 2
      go_quiet ((go_at_call 10; exact Calls.quiet_of_same (HL.out _ (by first | exact Fr.refl _ _ | exact (Fr.refl _ _).drew | exact (Fr.refl _ _).drewN _))))
      go_wp2
      have hRL : ∀ j, (oR T m K j).length ≤ m := fun j => by rw [oR_len T m K j hK]; omega
      have HRL := Lib.hid hRL
      go_loopw [13] (fun i wr => ∃ j : Nat, j ≤ m ∧ i = .int .i64 j ∧ ∃ f, f 1 2 = ((oR T m K j).length : Int) ∧ Nt base (min (max 12 1) 12) 0 (oR T m K j).length (pkCells (oR T m K j)) f b wr ∧ Fr (fun j => base ≤ j) w2 wr) (fun i _ => m - (intOf i).toNat)
      case atStart =>
        refine ⟨0, Nat.zero_le _, rfl, upd f 1 2 (f 1 2 - 1), ?_, ?_, ?_⟩
        · rw [oR_len T m K 0 hK]
          simp [upd, HN.out.1]
          omega
        · rw [← oL_erase]
          exact HNW.out.1.fr ((Fr.refl _ _).drewN _)
        · exact (HN.out.2.2.trans HNW.out.2).drewN _
      case round =>
        clear hRL c2 hsz
        obtain ⟨j, hj, rfl, f2, hf2, hNj, hFj⟩ := hrel
        have HM := Lib.hid (And.intro hf2 (And.intro hNj hFj))
        clear hf2 hNj hFj
        by_cases hlt2 : j < m
        · by_cases hne : j = K
          · subst hne
            go_wp2
            go_roundw
            case rel =>
              refine ⟨j + 1, by omega, by go_num, f2, ?_, ?_, HM.out.2.2⟩
              · rw [oR_skip]; exact HM.out.1
              · rw [oR_skip]; exact HM.out.2.1
            case measure => simp [intOf]; omega
          · have hneI : ¬ ((j : Int) = (K : Int)) := by omega
            have hlen1 : 1 ≤ (oR T m K j).length := by have := (List.getElem?_eq_some_iff.1 (oR_at T m K j hK hlt2 hne)).1; omega
            have hTK := net_take (base := base) (i := 0) HM.out.2.1 (oR_at T m K j hK hlt2 hne) (by show I64 1; unfold I64; omega) (by show I64 2; unfold I64; omega) (by show 1 ≤ f2 1 2; rw [HM.out.1]; omega) (by show f2 1 2 ≤ _; rw [HM.out.1]; have := HRL.out j; omega) (by have := HM.out.2.2.size; have := HSZ.out; omega)
            rw [show ((0 : Nat) : Int) = 0 from rfl] at hTK
            dsimp only [oP] at hTK
            have HTK2 := Lib.hid hTK
            have hsz : (j : Int) + 1 ≤ (T.size : Int) := by have := HT.out; omega
            clear hTK hne hlen1
            go_upto_region 21 with (go_at_call 9; (with_reducible refine HTK2.out.mono ?_); rintro e w4 ⟨rfl, hN4, hF4⟩; have HN4 := Lib.hid (And.intro hN4 hF4); clear hN4 hF4)
            obtain ⟨W4, hW4⟩ : ∃ W4, W4 = w4.alloc (Obj.cells #[Value.int IntKind.i64 1, Value.int IntKind.i64 2, Value.string (T.extract j (j + 1))] 27) := ⟨_, rfl⟩
            have HP4 := Lib.hid (Blk.new w4 27 #[Value.int IntKind.i64 1, Value.int IntKind.i64 2, Value.string (T.extract j (j + 1))])
            have HFA4 : Hid (Fr noneOf w4 W4) := Lib.hid (by rw [hW4]; exact (Fr.refl noneOf w4).alloc _)
            rw [← hW4] at HP4 ⊢
            obtain ⟨P4, hP4⟩ : ∃ P4, P4 = w4.heap.size := ⟨_, rfl⟩
            rw [← hP4] at HP4 ⊢
            clear hW4 hP4
            have c0 : W4.cell? ⟨P4, 0, none⟩ = some (.int .i64 1) := HP4.out.cell 0
            have c1 : W4.cell? ⟨P4, 1, none⟩ = some (.int .i64 2) := HP4.out.cell 1
            have c2 : W4.cell? ⟨P4, 2, none⟩ = some (.string (T.extract j (j + 1))) := HP4.out.cell 2
            go_quiet (fail)
            go_wp2
            go_roundw
            case rel =>
              refine ⟨j + 1, by omega, by go_num, upd f2 1 2 (f2 1 2 - 1), ?_, ?_, ?_⟩
              · have h1 := oR_len T m K j hK
                have h2 := oR_len T m K (j + 1) hK
                simp only [upd, HM.out.1]
                simp
                rw [h1, h2]
                split <;> split <;> omega
              · rw [← oR_next T m K j (by omega)]
                exact HN4.out.1.fr (HFA4.out.drewN _)
              · exact (((HM.out.2.2.trans' HN4.out.2 (fun _ _ h => h))).trans' HFA4.out (fun _ _ x => x.elim)).drewN _
            case measure => simp [intOf]; omega
        · obtain rfl : m = j := by omega
          have HE : Hid (Nt base (min (max 12 1) 12) 0 0 [] f2 b _ ∧ f2 1 2 = 0) := Lib.hid (by
            have h1 := HM.out.2.1
            have h2 := HM.out.1
            rw [oR_end T m K hK] at h1 h2
            exact ⟨h1, h2⟩)
          go_wp2_with (first
            | (go_at_call 9; (with_reducible refine (take_out HE.out.1 0 (by omega)).mono ?_); rintro e w5 ⟨rfl, hf5⟩; have HF5 := Lib.hid (hf5.alloc (.cells #[.int .i64 0, .int .i64 0, .string ⟨#[]⟩] 27)); clear hf5)
            | (go_at_call 11; (refine (net_between (HE.out.1.fr HF5.out) 1 2 (by unfold I64; omega) (by unfold I64; omega)).mono ?_); rintro e w6 ⟨rfl, hf6⟩; have HF6 := Lib.hid (HF5.out.trans hf6); clear hf6; have hz : f2 1 2 = 0 := HE.out.2)
            | (go_at_call 12; (with_reducible refine (drop_out (HE.out.1.fr HF6.out) 0 (by omega)).mono ?_); rintro e w7 ⟨rfl, hf7⟩; have HF7 := Lib.hid (HF6.out.trans hf7); clear hf7)
            | (go_at_call 13; (with_reducible refine (copy_out (HE.out.1.fr HF7.out) 0 (by omega)).mono ?_); rintro e w8 ⟨rfl, hf8⟩; have HF8 := Lib.hid (HF7.out.trans hf8); clear hf8))
          go_ret
          refine ⟨rfl, ?_⟩
          exact (HF2.out.1.trans' HM.out.2.2 (fun i hi h => by have h : base ≤ i := h; have := HF2.out.2; omega)).trans HF8.out
theorem networkOrder_law (many at' : Int) (w : World) (a : -9223372036854775808 ≤ many) (b : many ≤ 9223372036854775807) (c : -9223372036854775808 ≤ at') (d : at' ≤ 9223372036854775807) : Calls Try.prog 3 #[.int .i64 many, .int .i64 at'] w fun e w' => e = .returned (.bool true) ∧ Fr noneOf w w' := networkOrder_any many at' w ⟨a, b⟩ ⟨c, d⟩
end Go.Proofs.Ytblnmghbcgbgdaa
