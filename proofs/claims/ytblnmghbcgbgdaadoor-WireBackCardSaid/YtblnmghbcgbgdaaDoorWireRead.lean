/-
  wire.body and wire.Read of a message's bytes give that message.
  Conditions: none.
-/
import Derived.Test.YtblnmghbcgbgdaaDoorWireBody
import Derived.Test.YtblnmghbcgbgdaaDoorWireOk
import Derived.Test.YtblnmghbcgbgdaaDoorBackW
namespace Go.Proofs.YtblnmghbcgbgdaaDoor
open Go.RowKit Nums
set_option linter.unusedVariables false
set_option linter.unusedSimpArgs false
/-- The row stands at p, and this is what is left. -/
def At (s : ByteArray) (p : Nat) (rest : List UInt8) : Prop := ∃ pre, s.data.toList = pre ++ rest ∧ p = pre.length
theorem At.start {s : ByteArray} {l : List UInt8} (h : s.data.toList = l) : At s 0 l := ⟨[], by simpa using h, rfl⟩
theorem At.done {s : ByteArray} {p : Nat} (h : At s p []) : p = s.size := by
  obtain ⟨pre, h, rfl⟩ := h
  have := congrArg List.length h
  simp at this
  exact this.symm
theorem num_at {s : ByteArray} {p : Nat} {rest : List UInt8} (n lo hi : Int) (b : Nat) (h : At s p (enc (fold n) ++ rest)) (hsz : s.size ≤ 100000) (h0 : -9223372036854775808 ≤ n) (h1 : n ≤ 9223372036854775807) (hlo : lo ≤ n) (hhi : n ≤ hi) :
    ∃ q, At s q rest ∧ Hid (∀ w, Rw s p 0 b w → Calls Tryd.prog 67 #[.pointer (some ⟨b, 0, none⟩), .int .i64 lo, .int .i64 hi] w fun e w' => e = .returned (.int .i64 n) ∧ Rw s q 0 b w' ∧ Fr (justOf b) w w') := by
  obtain ⟨pre, hs, rfl⟩ := h
  exact ⟨pre.length + (enc (fold n)).length, ⟨pre ++ enc (fold n), by rw [hs, List.append_assoc], by rw [List.length_append]⟩, Lib.hid (fun w hR => num_good pre rest n lo hi s b w hs hsz h0 h1 hlo hhi hR)⟩
theorem count_at {s : ByteArray} {p : Nat} {rest : List UInt8} (n : Nat) (hi : Int) (b : Nat) (h : At s p (enc (fold (n : Int)) ++ rest)) (hsz : s.size ≤ 100000) (hn : n ≤ 2000000000) (hhi : (n : Int) ≤ hi) :
    ∃ q, At s q rest ∧ Hid (∀ w, Rw s p 0 b w → Calls Tryd.prog 64 #[.pointer (some ⟨b, 0, none⟩), .int .i64 hi] w fun e w' => e = .returned (.int .i64 (n : Int)) ∧ Rw s q 0 b w' ∧ Fr (justOf b) w w') := by
  obtain ⟨pre, hs, rfl⟩ := h
  exact ⟨pre.length + (enc (fold (n : Int))).length, ⟨pre ++ enc (fold (n : Int)), by rw [hs, List.append_assoc], by rw [List.length_append]⟩, Lib.hid (fun w hR => count_good pre rest n hi s b w hs hsz hn hhi hR)⟩
theorem text_at {s : ByteArray} {p : Nat} {rest : List UInt8} (t : List UInt8) (hi : Int) (b : Nat) (h : At s p (putText t ++ rest)) (hsz : s.size ≤ 100000) (hhi : (t.length : Int) ≤ hi) :
    ∃ q, At s q rest ∧ Hid (∀ w, Rw s p 0 b w → Calls Tryd.prog 68 #[.pointer (some ⟨b, 0, none⟩), .int .i64 hi] w fun e w' => e = .returned (.string ⟨t.toArray⟩) ∧ Rw s q 0 b w' ∧ Fr (justOf b) w w') := by
  obtain ⟨pre, hs, rfl⟩ := h
  exact ⟨pre.length + (putText t).length, ⟨pre ++ putText t, by rw [hs, List.append_assoc], by rw [List.length_append]⟩, Lib.hid (fun w hR => text_good pre t rest hi s b w hs hsz hhi hR)⟩
/-- What the kind's first reading wants. -/
theorem kind_at {s : ByteArray} {p : Nat} {rest : List UInt8} (k : Nat) (hk : k ≤ 99) (b : Nat) (h : At s p (enc (fold (k : Int)) ++ rest)) (hsz : s.size ≤ 100000) :
    ∃ q, At s q rest ∧ Hid (∀ w, Rw s p 0 b w → Calls Tryd.prog 64 #[.pointer (some ⟨b, 0, none⟩), .int .i64 99] w fun e w' => e = .returned (.int .i64 (k : Int)) ∧ Rw s q 0 b w' ∧ Fr (justOf b) w w') :=
  count_at k 99 b h hsz (by omega) (by omega)
theorem flag_at {s : ByteArray} {p : Nat} {rest : List UInt8} (y : Bool) (b : Nat) (h : At s p (enc (fold (flag y)) ++ rest)) (hsz : s.size ≤ 100000) :
    ∃ q, At s q rest ∧ Hid (∀ w, Rw s p 0 b w → Calls Tryd.prog 64 #[.pointer (some ⟨b, 0, none⟩), .int .i64 1] w fun e w' => e = .returned (.int .i64 (flag y)) ∧ Rw s q 0 b w' ∧ Fr (justOf b) w w') := by
  cases y
  · exact count_at 0 1 b h hsz (by omega) (by omega)
  · exact count_at 1 1 b h hsz (by omega) (by omega)
theorem text_at_end {s : ByteArray} {p : Nat} (t : List UInt8) (b : Nat) (h : At s p (putText t)) (hsz : s.size ≤ 100000) (hhi : t.length ≤ 4096) :
    ∃ q, At s q [] ∧ Hid (∀ w, Rw s p 0 b w → Calls Tryd.prog 68 #[.pointer (some ⟨b, 0, none⟩), .int .i64 4096] w fun e w' => e = .returned (.string ⟨t.toArray⟩) ∧ Rw s q 0 b w' ∧ Fr (justOf b) w w') :=
  text_at t 4096 b (by simpa using h) hsz (by omega)
set_option maxRecDepth 100000 in
theorem body_ok (x : Ms) (hx : x.ok) (s : ByteArray) (hs : s.data.toList = x.enc) (b : Nat) (w : World) (h : Rw s 0 0 b w) :
    Calls Tryd.prog 36 #[.pointer (some ⟨b, 0, none⟩)] w fun e w' => e = .returned (.agg x.val) ∧ Rw s s.size 0 b w' ∧ Fr (justOf b) w w' := by
  have hsz : s.size ≤ 100000 := by
    have h1 := (ms_len x hx).1
    have h2 := congrArg List.length hs
    simp at h2
    omega
  have ha := At.start hs
  cases x with
  | bare k =>
    simp only [Ms.enc, Ms.rest, Ms.kd, put, List.flatMap_cons, List.flatMap_nil, List.append_nil] at ha
    simp only [Ms.ok] at hx
    rcases hx with rfl | rfl
    · obtain ⟨q, hq, H0⟩ := kind_at 1 (by omega) b (rest := []) (by simpa using ha) hsz
      rw [← hq.done]
      exact body_bare1 s b w _ _ h H0
    · obtain ⟨q, hq, H0⟩ := kind_at 7 (by omega) b (rest := []) (by simpa using ha) hsz
      rw [← hq.done]
      exact body_bare7 s b w _ _ h H0
  | path k p =>
    simp only [Ms.enc, Ms.rest, Ms.kd, put, List.flatMap_cons, List.flatMap_nil, List.append_nil] at ha
    simp only [Ms.ok, pathL] at hx
    obtain ⟨hk, hp, _⟩ := hx
    rcases hk with rfl | rfl
    · obtain ⟨q, hq, H0⟩ := kind_at 2 (by omega) b ha hsz
      obtain ⟨q1, hq1, H1⟩ := text_at_end p b hq hsz (by omega)
      rw [← hq1.done]
      exact body_path2 p s b w _ _ _ h H0 H1
    · obtain ⟨q, hq, H0⟩ := kind_at 4 (by omega) b ha hsz
      obtain ⟨q1, hq1, H1⟩ := text_at_end p b hq hsz (by omega)
      rw [← hq1.done]
      exact body_path4 p s b w _ _ _ h H0 H1
  | refuse n =>
    simp only [Ms.enc, Ms.rest, Ms.kd, put, List.flatMap_cons, List.flatMap_nil, List.append_nil] at ha
    simp only [Ms.ok] at hx
    obtain ⟨q, hq, H0⟩ := kind_at 3 (by omega) b ha hsz
    obtain ⟨q1, hq1, H1⟩ := count_at (rest := []) n 99 b (by simpa using hq) hsz (by omega) (by omega)
    rw [← hq1.done]
    exact body_refuse n s b w _ _ _ h H0 H1
  | alive g t key =>
    simp only [Ms.enc, Ms.rest, Ms.kd, put, List.flatMap_cons, List.flatMap_nil, List.append_nil] at ha
    simp only [Ms.ok] at hx
    obtain ⟨q, hq, H0⟩ := kind_at 5 (by omega) b ha hsz
    obtain ⟨q1, hq1, H1⟩ := num_at g (-1) 1073741824 b hq hsz (by omega) (by omega) (by omega) (by omega)
    obtain ⟨q2, hq2, H2⟩ := num_at t (-1) 1073741824 b hq1 hsz (by omega) (by omega) (by omega) (by omega)
    obtain ⟨q3, hq3, H3⟩ := flag_at (rest := []) key b (by simpa using hq2) hsz
    rw [← hq3.done]
    exact body_alive g t key s b w _ _ _ _ _ h H0 H1 H2 H3
  | frame g t key B =>
    simp only [Ms.enc, Ms.rest, Ms.kd, put, List.flatMap_cons, List.flatMap_nil, List.append_nil, List.append_assoc] at ha
    simp only [Ms.ok] at hx
    obtain ⟨q, hq, H0⟩ := kind_at 6 (by omega) b ha hsz
    obtain ⟨q1, hq1, H1⟩ := num_at (g : Int) (-1) 1073741824 b hq hsz (by omega) (by omega) (by omega) (by omega)
    obtain ⟨q2, hq2, H2⟩ := num_at (t : Int) (-1) 1073741824 b hq1 hsz (by omega) (by omega) (by omega) (by omega)
    obtain ⟨q3, hq3, H3⟩ := flag_at key b hq2 hsz
    obtain ⟨q4, hq4, H4⟩ := text_at_end B b hq3 hsz (by omega)
    rw [← hq4.done]
    exact body_frame g t key B s b w _ _ _ _ _ _ h H0 H1 H2 H3 H4
  | hand k p n c =>
    simp only [Ms.enc, Ms.rest, Ms.kd, put, List.flatMap_cons, List.flatMap_nil, List.append_nil, List.append_assoc] at ha
    simp only [Ms.ok, pathL] at hx
    obtain ⟨hk, ⟨hp, _⟩, hn, hc⟩ := hx
    rcases hk with rfl | rfl
    · obtain ⟨q, hq, H0⟩ := kind_at 8 (by omega) b ha hsz
      obtain ⟨q1, hq1, H1⟩ := count_at n 99 b hq hsz (by omega) (by omega)
      obtain ⟨q2, hq2, H2⟩ := count_at c 1048576 b hq1 hsz (by omega) (by omega)
      obtain ⟨q3, hq3, H3⟩ := text_at_end p b hq2 hsz (by omega)
      rw [← hq3.done]
      exact body_hand8 p n c s b w _ _ _ _ _ h H0 H1 H2 H3
    · obtain ⟨q, hq, H0⟩ := kind_at 9 (by omega) b ha hsz
      obtain ⟨q1, hq1, H1⟩ := count_at n 99 b hq hsz (by omega) (by omega)
      obtain ⟨q2, hq2, H2⟩ := count_at c 1048576 b hq1 hsz (by omega) (by omega)
      obtain ⟨q3, hq3, H3⟩ := text_at_end p b hq2 hsz (by omega)
      rw [← hq3.done]
      exact body_hand9 p n c s b w _ _ _ _ _ h H0 H1 H2 H3
end Go.Proofs.YtblnmghbcgbgdaaDoor
