/- Image: names. -/
import Derived.Test.YtigbmlgllgcbhaaDoorRows
import Derived.Test.YtigbmlgllgcbhaaDoorCal
import Derived.Test.YtigbmlgllgcbhaaDoorOps
import Derived.Test.YtigbmlgllgcbhaaDoorAfix
namespace Go.Proofs.YtigbmlgllgcbhaaDoor
open Go.RowKit
set_option linter.unusedVariables false
set_option linter.unusedSimpArgs false
theorem ret_bool {a b : Bool} (h : a = b) : Ending.returned (.bool a) = .returned (.bool b) := by rw [h]
theorem ret_int {a b : Int} (h : a = b) : Ending.returned (.int .i64 a) = .returned (.int .i64 b) := by rw [h]
def True1 (W : World) (en : Ending) (W' : World) : Prop := en = .returned (.bool true) ∧ Below W.heap.size W W'
/-- A string of these bytes. -/
def sv (bs : List UInt8) : ByteArray := ⟨bs.toArray⟩
theorem sv_size (bs : List UInt8) : (sv bs).size = bs.length := by simp [sv, ByteArray.size]
theorem sv_get (bs : List UInt8) (i : Nat) (h : i < (sv bs).size) : (sv bs)[i] = bs[i]'(by rw [sv_size] at h; exact h) := by
  show (sv bs).data[i] = _
  simp [sv]
def letB (x : UInt8) : Bool := (decide (97 ≤ x.toNat) && decide (x.toNat ≤ 122)) || (decide (65 ≤ x.toNat) && decide (x.toNat ≤ 90)) || x.toNat == 95
def digB (x : UInt8) : Bool := decide (48 ≤ x.toNat) && decide (x.toNat ≤ 57)
set_option maxRecDepth 100000 in
set_option maxHeartbeats 4000000 in
theorem isLetter (x : UInt8) (W : World) : Calls Tryd.prog 56 #[.int .u8 (x.toNat : Int)] W (fun en W' => en = .returned (.bool (letB x)) ∧ W' = W) := by
  obtain ⟨n, hn⟩ : ∃ n, x.toNat = n := ⟨_, rfl⟩
  have HL := Lib.hid (show letB x = ((decide (97 ≤ n) && decide (n ≤ 122)) || (decide (65 ≤ n) && decide (n ≤ 90)) || n == 95) by unfold letB; rw [hn])
  rw [hn]
  clear hn
  have hc : (n ≤ 64) ∨ (65 ≤ n ∧ n ≤ 90) ∨ (91 ≤ n ∧ n ≤ 94) ∨ (95 ≤ n ∧ n ≤ 95) ∨ (96 ≤ n ∧ n ≤ 96) ∨ (97 ≤ n ∧ n ≤ 122) ∨ (123 ≤ n) := by omega
  rcases hc with h | h | h | h | h | h | h
  · have H := Lib.hid h
    have q0 : decide (97 ≤ n) = false := decide_eq_false (by omega)
    have p0 : decide ((97 : Int) ≤ (n : Int)) = false := decide_eq_false (by omega)
    have q1 : decide (n ≤ 122) = true := decide_eq_true (by omega)
    have p1 : decide ((n : Int) ≤ 122) = true := decide_eq_true (by omega)
    have q2 : decide (65 ≤ n) = false := decide_eq_false (by omega)
    have p2 : decide ((65 : Int) ≤ (n : Int)) = false := decide_eq_false (by omega)
    have q3 : decide (n ≤ 90) = true := decide_eq_true (by omega)
    have p3 : decide ((n : Int) ≤ 90) = true := decide_eq_true (by omega)
    have p4 : ((n : Int) == 95) = false := by rw [beq_eq_false_iff_ne]; omega
    clear h
    go_enter Tryd.func56, Tryd.ntmps56
    go_wp2
    go_ret
    exact ⟨ret_bool (by have := H.out; rw [HL.out]; simp; omega), rfl⟩
  · have H := Lib.hid h
    have q0 : decide (97 ≤ n) = false := decide_eq_false (by omega)
    have p0 : decide ((97 : Int) ≤ (n : Int)) = false := decide_eq_false (by omega)
    have q1 : decide (n ≤ 122) = true := decide_eq_true (by omega)
    have p1 : decide ((n : Int) ≤ 122) = true := decide_eq_true (by omega)
    have q2 : decide (65 ≤ n) = true := decide_eq_true (by omega)
    have p2 : decide ((65 : Int) ≤ (n : Int)) = true := decide_eq_true (by omega)
    have q3 : decide (n ≤ 90) = true := decide_eq_true (by omega)
    have p3 : decide ((n : Int) ≤ 90) = true := decide_eq_true (by omega)
    have p4 : ((n : Int) == 95) = false := by rw [beq_eq_false_iff_ne]; omega
    clear h
    go_enter Tryd.func56, Tryd.ntmps56
    go_wp2
    go_ret
    exact ⟨ret_bool (by have := H.out; rw [HL.out]; simp; omega), rfl⟩
  · have H := Lib.hid h
    have q0 : decide (97 ≤ n) = false := decide_eq_false (by omega)
    have p0 : decide ((97 : Int) ≤ (n : Int)) = false := decide_eq_false (by omega)
    have q1 : decide (n ≤ 122) = true := decide_eq_true (by omega)
    have p1 : decide ((n : Int) ≤ 122) = true := decide_eq_true (by omega)
    have q2 : decide (65 ≤ n) = true := decide_eq_true (by omega)
    have p2 : decide ((65 : Int) ≤ (n : Int)) = true := decide_eq_true (by omega)
    have q3 : decide (n ≤ 90) = false := decide_eq_false (by omega)
    have p3 : decide ((n : Int) ≤ 90) = false := decide_eq_false (by omega)
    have p4 : ((n : Int) == 95) = false := by rw [beq_eq_false_iff_ne]; omega
    clear h
    go_enter Tryd.func56, Tryd.ntmps56
    go_wp2
    go_ret
    exact ⟨ret_bool (by have := H.out; rw [HL.out]; simp; omega), rfl⟩
  · have H := Lib.hid h
    have q0 : decide (97 ≤ n) = false := decide_eq_false (by omega)
    have p0 : decide ((97 : Int) ≤ (n : Int)) = false := decide_eq_false (by omega)
    have q1 : decide (n ≤ 122) = true := decide_eq_true (by omega)
    have p1 : decide ((n : Int) ≤ 122) = true := decide_eq_true (by omega)
    have q2 : decide (65 ≤ n) = true := decide_eq_true (by omega)
    have p2 : decide ((65 : Int) ≤ (n : Int)) = true := decide_eq_true (by omega)
    have q3 : decide (n ≤ 90) = false := decide_eq_false (by omega)
    have p3 : decide ((n : Int) ≤ 90) = false := decide_eq_false (by omega)
    have p4 : ((n : Int) == 95) = true := by rw [beq_iff_eq]; omega
    clear h
    go_enter Tryd.func56, Tryd.ntmps56
    go_wp2
    go_ret
    exact ⟨ret_bool (by have := H.out; rw [HL.out]; simp; omega), rfl⟩
  · have H := Lib.hid h
    have q0 : decide (97 ≤ n) = false := decide_eq_false (by omega)
    have p0 : decide ((97 : Int) ≤ (n : Int)) = false := decide_eq_false (by omega)
    have q1 : decide (n ≤ 122) = true := decide_eq_true (by omega)
    have p1 : decide ((n : Int) ≤ 122) = true := decide_eq_true (by omega)
    have q2 : decide (65 ≤ n) = true := decide_eq_true (by omega)
    have p2 : decide ((65 : Int) ≤ (n : Int)) = true := decide_eq_true (by omega)
    have q3 : decide (n ≤ 90) = false := decide_eq_false (by omega)
    have p3 : decide ((n : Int) ≤ 90) = false := decide_eq_false (by omega)
    have p4 : ((n : Int) == 95) = false := by rw [beq_eq_false_iff_ne]; omega
    clear h
    go_enter Tryd.func56, Tryd.ntmps56
    go_wp2
    go_ret
    exact ⟨ret_bool (by have := H.out; rw [HL.out]; simp; omega), rfl⟩
  · have H := Lib.hid h
    have q0 : decide (97 ≤ n) = true := decide_eq_true (by omega)
    have p0 : decide ((97 : Int) ≤ (n : Int)) = true := decide_eq_true (by omega)
    have q1 : decide (n ≤ 122) = true := decide_eq_true (by omega)
    have p1 : decide ((n : Int) ≤ 122) = true := decide_eq_true (by omega)
    have q2 : decide (65 ≤ n) = true := decide_eq_true (by omega)
    have p2 : decide ((65 : Int) ≤ (n : Int)) = true := decide_eq_true (by omega)
    have q3 : decide (n ≤ 90) = false := decide_eq_false (by omega)
    have p3 : decide ((n : Int) ≤ 90) = false := decide_eq_false (by omega)
    have p4 : ((n : Int) == 95) = false := by rw [beq_eq_false_iff_ne]; omega
    clear h
    go_enter Tryd.func56, Tryd.ntmps56
    go_wp2
    go_ret
    exact ⟨ret_bool (by have := H.out; rw [HL.out]; simp; omega), rfl⟩
  · have H := Lib.hid h
    have q0 : decide (97 ≤ n) = true := decide_eq_true (by omega)
    have p0 : decide ((97 : Int) ≤ (n : Int)) = true := decide_eq_true (by omega)
    have q1 : decide (n ≤ 122) = false := decide_eq_false (by omega)
    have p1 : decide ((n : Int) ≤ 122) = false := decide_eq_false (by omega)
    have q2 : decide (65 ≤ n) = true := decide_eq_true (by omega)
    have p2 : decide ((65 : Int) ≤ (n : Int)) = true := decide_eq_true (by omega)
    have q3 : decide (n ≤ 90) = false := decide_eq_false (by omega)
    have p3 : decide ((n : Int) ≤ 90) = false := decide_eq_false (by omega)
    have p4 : ((n : Int) == 95) = false := by rw [beq_eq_false_iff_ne]; omega
    clear h
    go_enter Tryd.func56, Tryd.ntmps56
    go_wp2
    go_ret
    exact ⟨ret_bool (by have := H.out; rw [HL.out]; simp; omega), rfl⟩
set_option maxRecDepth 100000 in
set_option maxHeartbeats 4000000 in
theorem rLetter (x : UInt8) (W : World) : Calls Tryd.prog 61 #[.int .u8 (x.toNat : Int)] W (fun en W' => en = .returned (.bool (letB x)) ∧ W' = W) := by
  obtain ⟨n, hn⟩ : ∃ n, x.toNat = n := ⟨_, rfl⟩
  have HL := Lib.hid (show letB x = ((decide (97 ≤ n) && decide (n ≤ 122)) || (decide (65 ≤ n) && decide (n ≤ 90)) || n == 95) by unfold letB; rw [hn])
  rw [hn]
  clear hn
  have hc : (n ≤ 64) ∨ (65 ≤ n ∧ n ≤ 90) ∨ (91 ≤ n ∧ n ≤ 94) ∨ (95 ≤ n ∧ n ≤ 95) ∨ (96 ≤ n ∧ n ≤ 96) ∨ (97 ≤ n ∧ n ≤ 122) ∨ (123 ≤ n) := by omega
  rcases hc with h | h | h | h | h | h | h
  · have H := Lib.hid h
    have q0 : decide (97 ≤ n) = false := decide_eq_false (by omega)
    have p0 : decide ((97 : Int) ≤ (n : Int)) = false := decide_eq_false (by omega)
    have q1 : decide (n ≤ 122) = true := decide_eq_true (by omega)
    have p1 : decide ((n : Int) ≤ 122) = true := decide_eq_true (by omega)
    have q2 : decide (65 ≤ n) = false := decide_eq_false (by omega)
    have p2 : decide ((65 : Int) ≤ (n : Int)) = false := decide_eq_false (by omega)
    have q3 : decide (n ≤ 90) = true := decide_eq_true (by omega)
    have p3 : decide ((n : Int) ≤ 90) = true := decide_eq_true (by omega)
    have p4 : ((n : Int) == 95) = false := by rw [beq_eq_false_iff_ne]; omega
    clear h
    go_enter Tryd.func61, Tryd.ntmps61
    go_wp2
    go_ret
    exact ⟨ret_bool (by have := H.out; rw [HL.out]; simp; omega), rfl⟩
  · have H := Lib.hid h
    have q0 : decide (97 ≤ n) = false := decide_eq_false (by omega)
    have p0 : decide ((97 : Int) ≤ (n : Int)) = false := decide_eq_false (by omega)
    have q1 : decide (n ≤ 122) = true := decide_eq_true (by omega)
    have p1 : decide ((n : Int) ≤ 122) = true := decide_eq_true (by omega)
    have q2 : decide (65 ≤ n) = true := decide_eq_true (by omega)
    have p2 : decide ((65 : Int) ≤ (n : Int)) = true := decide_eq_true (by omega)
    have q3 : decide (n ≤ 90) = true := decide_eq_true (by omega)
    have p3 : decide ((n : Int) ≤ 90) = true := decide_eq_true (by omega)
    have p4 : ((n : Int) == 95) = false := by rw [beq_eq_false_iff_ne]; omega
    clear h
    go_enter Tryd.func61, Tryd.ntmps61
    go_wp2
    go_ret
    exact ⟨ret_bool (by have := H.out; rw [HL.out]; simp; omega), rfl⟩
  · have H := Lib.hid h
    have q0 : decide (97 ≤ n) = false := decide_eq_false (by omega)
    have p0 : decide ((97 : Int) ≤ (n : Int)) = false := decide_eq_false (by omega)
    have q1 : decide (n ≤ 122) = true := decide_eq_true (by omega)
    have p1 : decide ((n : Int) ≤ 122) = true := decide_eq_true (by omega)
    have q2 : decide (65 ≤ n) = true := decide_eq_true (by omega)
    have p2 : decide ((65 : Int) ≤ (n : Int)) = true := decide_eq_true (by omega)
    have q3 : decide (n ≤ 90) = false := decide_eq_false (by omega)
    have p3 : decide ((n : Int) ≤ 90) = false := decide_eq_false (by omega)
    have p4 : ((n : Int) == 95) = false := by rw [beq_eq_false_iff_ne]; omega
    clear h
    go_enter Tryd.func61, Tryd.ntmps61
    go_wp2
    go_ret
    exact ⟨ret_bool (by have := H.out; rw [HL.out]; simp; omega), rfl⟩
  · have H := Lib.hid h
    have q0 : decide (97 ≤ n) = false := decide_eq_false (by omega)
    have p0 : decide ((97 : Int) ≤ (n : Int)) = false := decide_eq_false (by omega)
    have q1 : decide (n ≤ 122) = true := decide_eq_true (by omega)
    have p1 : decide ((n : Int) ≤ 122) = true := decide_eq_true (by omega)
    have q2 : decide (65 ≤ n) = true := decide_eq_true (by omega)
    have p2 : decide ((65 : Int) ≤ (n : Int)) = true := decide_eq_true (by omega)
    have q3 : decide (n ≤ 90) = false := decide_eq_false (by omega)
    have p3 : decide ((n : Int) ≤ 90) = false := decide_eq_false (by omega)
    have p4 : ((n : Int) == 95) = true := by rw [beq_iff_eq]; omega
    clear h
    go_enter Tryd.func61, Tryd.ntmps61
    go_wp2
    go_ret
    exact ⟨ret_bool (by have := H.out; rw [HL.out]; simp; omega), rfl⟩
  · have H := Lib.hid h
    have q0 : decide (97 ≤ n) = false := decide_eq_false (by omega)
    have p0 : decide ((97 : Int) ≤ (n : Int)) = false := decide_eq_false (by omega)
    have q1 : decide (n ≤ 122) = true := decide_eq_true (by omega)
    have p1 : decide ((n : Int) ≤ 122) = true := decide_eq_true (by omega)
    have q2 : decide (65 ≤ n) = true := decide_eq_true (by omega)
    have p2 : decide ((65 : Int) ≤ (n : Int)) = true := decide_eq_true (by omega)
    have q3 : decide (n ≤ 90) = false := decide_eq_false (by omega)
    have p3 : decide ((n : Int) ≤ 90) = false := decide_eq_false (by omega)
    have p4 : ((n : Int) == 95) = false := by rw [beq_eq_false_iff_ne]; omega
    clear h
    go_enter Tryd.func61, Tryd.ntmps61
    go_wp2
    go_ret
    exact ⟨ret_bool (by have := H.out; rw [HL.out]; simp; omega), rfl⟩
  · have H := Lib.hid h
    have q0 : decide (97 ≤ n) = true := decide_eq_true (by omega)
    have p0 : decide ((97 : Int) ≤ (n : Int)) = true := decide_eq_true (by omega)
    have q1 : decide (n ≤ 122) = true := decide_eq_true (by omega)
    have p1 : decide ((n : Int) ≤ 122) = true := decide_eq_true (by omega)
    have q2 : decide (65 ≤ n) = true := decide_eq_true (by omega)
    have p2 : decide ((65 : Int) ≤ (n : Int)) = true := decide_eq_true (by omega)
    have q3 : decide (n ≤ 90) = false := decide_eq_false (by omega)
    have p3 : decide ((n : Int) ≤ 90) = false := decide_eq_false (by omega)
    have p4 : ((n : Int) == 95) = false := by rw [beq_eq_false_iff_ne]; omega
    clear h
    go_enter Tryd.func61, Tryd.ntmps61
    go_wp2
    go_ret
    exact ⟨ret_bool (by have := H.out; rw [HL.out]; simp; omega), rfl⟩
  · have H := Lib.hid h
    have q0 : decide (97 ≤ n) = true := decide_eq_true (by omega)
    have p0 : decide ((97 : Int) ≤ (n : Int)) = true := decide_eq_true (by omega)
    have q1 : decide (n ≤ 122) = false := decide_eq_false (by omega)
    have p1 : decide ((n : Int) ≤ 122) = false := decide_eq_false (by omega)
    have q2 : decide (65 ≤ n) = true := decide_eq_true (by omega)
    have p2 : decide ((65 : Int) ≤ (n : Int)) = true := decide_eq_true (by omega)
    have q3 : decide (n ≤ 90) = false := decide_eq_false (by omega)
    have p3 : decide ((n : Int) ≤ 90) = false := decide_eq_false (by omega)
    have p4 : ((n : Int) == 95) = false := by rw [beq_eq_false_iff_ne]; omega
    clear h
    go_enter Tryd.func61, Tryd.ntmps61
    go_wp2
    go_ret
    exact ⟨ret_bool (by have := H.out; rw [HL.out]; simp; omega), rfl⟩
set_option maxRecDepth 100000 in
set_option maxHeartbeats 4000000 in
theorem isDigit (x : UInt8) (W : World) : Calls Tryd.prog 63 #[.int .u8 (x.toNat : Int)] W (fun en W' => en = .returned (.bool (digB x)) ∧ W' = W) := by
  obtain ⟨n, hn⟩ : ∃ n, x.toNat = n := ⟨_, rfl⟩
  have HL := Lib.hid (show digB x = (decide (48 ≤ n) && decide (n ≤ 57)) by unfold digB; rw [hn])
  rw [hn]
  clear hn
  have hc : (n ≤ 47) ∨ (48 ≤ n ∧ n ≤ 57) ∨ (58 ≤ n) := by omega
  rcases hc with h | h | h
  · have H := Lib.hid h
    have q0 : decide (48 ≤ n) = false := decide_eq_false (by omega)
    have p0 : decide ((48 : Int) ≤ (n : Int)) = false := decide_eq_false (by omega)
    have q1 : decide (n ≤ 57) = true := decide_eq_true (by omega)
    have p1 : decide ((n : Int) ≤ 57) = true := decide_eq_true (by omega)
    clear h
    go_enter Tryd.func63, Tryd.ntmps63
    go_wp2
    go_ret
    exact ⟨ret_bool (by have := H.out; rw [HL.out]; simp; omega), rfl⟩
  · have H := Lib.hid h
    have q0 : decide (48 ≤ n) = true := decide_eq_true (by omega)
    have p0 : decide ((48 : Int) ≤ (n : Int)) = true := decide_eq_true (by omega)
    have q1 : decide (n ≤ 57) = true := decide_eq_true (by omega)
    have p1 : decide ((n : Int) ≤ 57) = true := decide_eq_true (by omega)
    clear h
    go_enter Tryd.func63, Tryd.ntmps63
    go_wp2
    go_ret
    exact ⟨ret_bool (by have := H.out; rw [HL.out]; simp; omega), rfl⟩
  · have H := Lib.hid h
    have q0 : decide (48 ≤ n) = true := decide_eq_true (by omega)
    have p0 : decide ((48 : Int) ≤ (n : Int)) = true := decide_eq_true (by omega)
    have q1 : decide (n ≤ 57) = false := decide_eq_false (by omega)
    have p1 : decide ((n : Int) ≤ 57) = false := decide_eq_false (by omega)
    clear h
    go_enter Tryd.func63, Tryd.ntmps63
    go_wp2
    go_ret
    exact ⟨ret_bool (by have := H.out; rw [HL.out]; simp; omega), rfl⟩
set_option maxRecDepth 100000 in
set_option maxHeartbeats 4000000 in
theorem rDigit (x : UInt8) (W : World) : Calls Tryd.prog 62 #[.int .u8 (x.toNat : Int)] W (fun en W' => en = .returned (.bool (digB x)) ∧ W' = W) := by
  obtain ⟨n, hn⟩ : ∃ n, x.toNat = n := ⟨_, rfl⟩
  have HL := Lib.hid (show digB x = (decide (48 ≤ n) && decide (n ≤ 57)) by unfold digB; rw [hn])
  rw [hn]
  clear hn
  have hc : (n ≤ 47) ∨ (48 ≤ n ∧ n ≤ 57) ∨ (58 ≤ n) := by omega
  rcases hc with h | h | h
  · have H := Lib.hid h
    have q0 : decide (48 ≤ n) = false := decide_eq_false (by omega)
    have p0 : decide ((48 : Int) ≤ (n : Int)) = false := decide_eq_false (by omega)
    have q1 : decide (n ≤ 57) = true := decide_eq_true (by omega)
    have p1 : decide ((n : Int) ≤ 57) = true := decide_eq_true (by omega)
    clear h
    go_enter Tryd.func62, Tryd.ntmps62
    go_wp2
    go_ret
    exact ⟨ret_bool (by have := H.out; rw [HL.out]; simp; omega), rfl⟩
  · have H := Lib.hid h
    have q0 : decide (48 ≤ n) = true := decide_eq_true (by omega)
    have p0 : decide ((48 : Int) ≤ (n : Int)) = true := decide_eq_true (by omega)
    have q1 : decide (n ≤ 57) = true := decide_eq_true (by omega)
    have p1 : decide ((n : Int) ≤ 57) = true := decide_eq_true (by omega)
    clear h
    go_enter Tryd.func62, Tryd.ntmps62
    go_wp2
    go_ret
    exact ⟨ret_bool (by have := H.out; rw [HL.out]; simp; omega), rfl⟩
  · have H := Lib.hid h
    have q0 : decide (48 ≤ n) = true := decide_eq_true (by omega)
    have p0 : decide ((48 : Int) ≤ (n : Int)) = true := decide_eq_true (by omega)
    have q1 : decide (n ≤ 57) = false := decide_eq_false (by omega)
    have p1 : decide ((n : Int) ≤ 57) = false := decide_eq_false (by omega)
    clear h
    go_enter Tryd.func62, Tryd.ntmps62
    go_wp2
    go_ret
    exact ⟨ret_bool (by have := H.out; rw [HL.out]; simp; omega), rfl⟩
def wrd (x : UInt8) : Bool := letB x || digB x
def runN (bs : List UInt8) : Nat := (bs.takeWhile wrd).length
def wordB : List UInt8 → Bool
  | [] => false
  | x :: r => letB x && r.all wrd
def nameB (bs : List UInt8) : Bool := wordB bs && decide (bs.length ≤ 24)
theorem runN_at : ∀ (bs : List UInt8) (j : Nat), j ≤ bs.length → (∀ i (h : i < bs.length), i < j → wrd bs[i] = true) → (∀ h : j < bs.length, wrd bs[j] = false) → runN bs = j
  | [], j, h, _, _ => by simp at h; subst h; rfl
  | x :: r, 0, _, _, h2 => by
    have h3 := h2 (by simp)
    simp only [List.getElem_cons_zero] at h3
    unfold runN
    rw [List.takeWhile_cons, h3]
    rfl
  | x :: r, j + 1, h, h1, h2 => by
    have h3 := h1 0 (by simp) (by omega)
    simp only [List.getElem_cons_zero] at h3
    have h4 := runN_at r j (by simpa using h) (fun i hi hj => by have := h1 (i + 1) (by simpa using hi) (by omega); simpa using this) (fun hj => by have := h2 (by simpa using hj); simpa using this)
    unfold runN at h4 ⊢
    rw [List.takeWhile_cons, h3]
    simpa using h4
theorem runN_all (bs : List UInt8) : (runN bs == bs.length) = bs.all wrd := by
  unfold runN
  induction bs with
  | nil => rfl
  | cons x r ih =>
    rw [List.takeWhile_cons, List.all_cons]
    cases h : wrd x
    · simp
    · simp only [if_true, List.length_cons, Bool.true_and, ← ih]
      rw [Bool.eq_iff_iff, beq_iff_eq, beq_iff_eq]
      omega
theorem runN_le (bs : List UInt8) : runN bs ≤ bs.length := by
  unfold runN
  exact (List.takeWhile_sublist _).length_le
theorem wordB_run {x : UInt8} {r : List UInt8} : wordB (x :: r) = (letB x && (runN (x :: r) == (x :: r).length)) := by
  rw [runN_all, List.all_cons]
  show (letB x && r.all wrd) = _
  cases h : letB x
  · rfl
  · rw [show wrd x = true by unfold wrd; rw [h]; rfl]
    rfl
set_option maxRecDepth 100000 in
set_option maxHeartbeats 4000000 in
theorem run57 (bs : List UInt8) (W : World) (hl : bs.length ≤ 1000000000) : Calls Tryd.prog 57 #[.string (sv bs)] W (fun en W' => en = .returned (.int .i64 (runN bs)) ∧ W' = W) := by
  have hsz := sv_size bs
  go_enter Tryd.func57, Tryd.ntmps57
  go_upto_region 2 with (fail)
  go_loopw [3] (fun i wr => ∃ j : Nat, j ≤ bs.length ∧ i = .int .i64 j ∧ wr = W ∧ ∀ k (h : k < bs.length), k < j → wrd bs[k] = true) (fun i _ => bs.length - (intOf i).toNat)
  case atStart => exact ⟨0, by omega, rfl, rfl, fun k h h2 => by omega⟩
  case round =>
    obtain ⟨j, hj, rfl, rfl, hall⟩ := hrel
    have HA := Lib.hid hall
    clear hall
    rcases Nat.lt_or_ge j bs.length with hjl | hjl
    · have d1 : decide (j < bs.length) = true := decide_eq_true hjl
      have hji : (j : Int) < bs.length := by omega
      have hj0 : (0 : Int) ≤ (j : Int) := by omega
      obtain ⟨x, hx⟩ : ∃ x, bs[j] = x := ⟨_, rfl⟩
      have hgt : ∀ h, (sv bs)[j]'h = x := fun h => (sv_get bs j h).trans hx
      have HX := Lib.hid hx
      clear hx
      cases hlet : letB x
      · cases hdig : digB x
        · have HW := Lib.hid (show wrd x = false by unfold wrd; rw [hlet, hdig]; rfl)
          have HR := Lib.hid (runN_at bs j hj HA.out (fun h => HX.out ▸ HW.out))
          go_wp2_with (first | (go_at_call 56; (refine (isLetter x _).mono ?_); rw [hlet]; rintro en w2 ⟨rfl, rfl⟩) | (go_at_call 63; (refine (isDigit x _).mono ?_); rw [hdig]; rintro en w3 ⟨rfl, rfl⟩))
          go_ret
          exact ⟨ret_int (by rw [HR.out]), rfl⟩
        · have HW := Lib.hid (show wrd x = true by unfold wrd; rw [hdig]; simp)
          go_wp2_with (first | (go_at_call 56; (refine (isLetter x _).mono ?_); rw [hlet]; rintro en w2 ⟨rfl, rfl⟩) | (go_at_call 63; (refine (isDigit x _).mono ?_); rw [hdig]; rintro en w3 ⟨rfl, rfl⟩))
          exact ⟨⟨j + 1, by omega, by go_num, by trivial, fun k h hk => by rcases Nat.lt_or_ge k j with h5 | h5; exact HA.out k h h5; obtain rfl : k = j := (by omega); exact HX.out ▸ HW.out⟩, by simp [intOf]; omega⟩
      · have HW := Lib.hid (show wrd x = true by unfold wrd; rw [hlet]; rfl)
        go_wp2_with (first | (go_at_call 56; (refine (isLetter x _).mono ?_); rw [hlet]; rintro en w2 ⟨rfl, rfl⟩))
        exact ⟨⟨j + 1, by omega, by go_num, by trivial, fun k h hk => by rcases Nat.lt_or_ge k j with h5 | h5; exact HA.out k h h5; obtain rfl : k = j := (by omega); exact HX.out ▸ HW.out⟩, by simp [intOf]; omega⟩
    · obtain rfl : j = bs.length := by omega
      have d1 : decide (bs.length < bs.length) = false := by simp
      have HR := Lib.hid (runN_at bs bs.length (Nat.le_refl _) HA.out (fun h => absurd h (by omega)))
      go_wp2
      go_ret
      exact ⟨ret_int (by rw [HR.out]), rfl⟩
theorem sv_list (bs : List UInt8) : (sv bs).toList = bs := by simp [sv]
theorem wordB_at {bs : List UInt8} (h : 0 < bs.length) : wordB bs = (letB bs[0] && (runN bs == bs.length)) := by
  match bs, h with
  | x :: r, _ => exact wordB_run
theorem run_is {bs : List UInt8} {k : Nat} (hk : runN bs = k) (hl : bs.length ≤ 1000000000) (W : World) : Calls Tryd.prog 57 #[.string (sv bs)] W (fun en W' => en = .returned (.int .i64 (k : Int)) ∧ W' = W) := by
  subst hk
  exact run57 bs W hl
theorem isLetter_is {x : UInt8} {b : Bool} (h : letB x = b) (W : World) : Calls Tryd.prog 56 #[.int .u8 (x.toNat : Int)] W (fun en W' => en = .returned (.bool b) ∧ W' = W) := by
  subst h
  exact isLetter x W
theorem rLetter_is {x : UInt8} {b : Bool} (h : letB x = b) (W : World) : Calls Tryd.prog 61 #[.int .u8 (x.toNat : Int)] W (fun en W' => en = .returned (.bool b) ∧ W' = W) := by
  subst h
  exact rLetter x W
theorem rDigit_is {x : UInt8} {b : Bool} (h : digB x = b) (W : World) : Calls Tryd.prog 62 #[.int .u8 (x.toNat : Int)] W (fun en W' => en = .returned (.bool b) ∧ W' = W) := by
  subst h
  exact rDigit x W
set_option maxRecDepth 100000 in
set_option maxHeartbeats 4000000 in
theorem word51 (bs : List UInt8) (W : World) (hl : bs.length ≤ 1000000000) : Calls Tryd.prog 51 #[.string (sv bs)] W (fun en W' => en = .returned (.bool (wordB bs)) ∧ W' = W) := by
  have hsz := sv_size bs
  have hls := sv_list bs
  have hle : (ByteArray.mk #[]).toList = ([] : List UInt8) := by simp
  rcases Nat.eq_zero_or_pos bs.length with h0 | h0
  · obtain rfl := List.eq_nil_of_length_eq_zero h0
    have hn : (([] : List UInt8) == []) = true := rfl
    go_enter Tryd.func51, Tryd.ntmps51
    go_wp2
    go_ret
    exact ⟨rfl, rfl⟩
  · have hn : (bs == []) = false := by cases bs; simp at h0; rfl
    have HW := Lib.hid (wordB_at h0)
    obtain ⟨x, hx⟩ : ∃ x, bs[0] = x := ⟨_, rfl⟩
    have hgt : ∀ h, (sv bs)[0]'h = x := fun h => (sv_get bs 0 h).trans hx
    have HX := Lib.hid hx
    have h0i : (0 : Int) < bs.length := by omega
    clear hx
    cases hlet : letB x
    · have HR := Lib.hid (show wordB bs = false by rw [HW.out, HX.out, hlet]; rfl)
      have HLT := Lib.hid hlet
      clear hlet
      go_enter Tryd.func51, Tryd.ntmps51
      go_wp2_with (go_at_call 56; refine (isLetter_is HLT.out _).mono ?_; rintro en w2 ⟨rfl, rfl⟩)
      go_ret
      exact ⟨ret_bool HR.out.symm, rfl⟩
    · obtain ⟨k, hk⟩ : ∃ k, runN bs = k := ⟨_, rfl⟩
      have HK := Lib.hid hk
      obtain ⟨b, hb⟩ : ∃ b, (k == bs.length) = b := ⟨_, rfl⟩
      have hbi : ((k : Int) == (bs.length : Int)) = b := by rw [← hb, Bool.eq_iff_iff, beq_iff_eq, beq_iff_eq]; omega
      have HR := Lib.hid (show wordB bs = b by rw [HW.out, HX.out, hlet, hk, hb]; rfl)
      have HLT := Lib.hid hlet
      clear hlet hk
      go_enter Tryd.func51, Tryd.ntmps51
      go_wp2_with (first | (go_at_call 56; refine (isLetter_is HLT.out _).mono ?_; rintro en w2 ⟨rfl, rfl⟩) | (go_at_call 57; refine (run_is HK.out hl _).mono ?_; rintro en w3 ⟨rfl, rfl⟩))
      go_ret
      exact ⟨ret_bool HR.out.symm, rfl⟩
set_option maxRecDepth 100000 in
set_option maxHeartbeats 4000000 in
theorem name41 (bs : List UInt8) (W : World) (hl : bs.length ≤ 1000000000) : Calls Tryd.prog 41 #[.string (sv bs)] W (fun en W' => en = .returned (.bool (nameB bs)) ∧ W' = W) := by
  have hsz := sv_size bs
  have hw := word51 bs W hl
  cases hb : wordB bs
  · rw [hb] at hw
    have HW := Lib.hid hw
    have HR := Lib.hid (show nameB bs = false by unfold nameB; rw [hb]; rfl)
    clear hw hb
    go_enter Tryd.func41, Tryd.ntmps41
    go_wp2_with (go_at_call 51; refine HW.out.mono ?_; rintro en w2 ⟨rfl, rfl⟩)
    go_ret
    exact ⟨ret_bool HR.out.symm, rfl⟩
  · rw [hb] at hw
    have HW := Lib.hid hw
    obtain ⟨b, h24⟩ : ∃ b, decide (bs.length ≤ 24) = b := ⟨_, rfl⟩
    have h24i : decide ((bs.length : Int) ≤ 24) = b := by rw [← h24, Bool.eq_iff_iff, decide_eq_true_eq, decide_eq_true_eq]; omega
    have HR := Lib.hid (show nameB bs = b by unfold nameB; rw [hb, h24]; rfl)
    clear hw hb
    go_enter Tryd.func41, Tryd.ntmps41
    go_wp2_with (go_at_call 51; refine HW.out.mono ?_; rintro en w2 ⟨rfl, rfl⟩)
    go_ret
    exact ⟨ret_bool HR.out.symm, rfl⟩
set_option maxRecDepth 100000 in
set_option maxHeartbeats 4000000 in
theorem rword55 (bs : List UInt8) (W : World) (hl : bs.length ≤ 1000000000) : Calls Tryd.prog 55 #[.string (sv bs)] W (fun en W' => en = .returned (.bool (wordB bs)) ∧ W' = W) := by
  have hsz := sv_size bs
  have hls := sv_list bs
  have hle : (ByteArray.mk #[]).toList = ([] : List UInt8) := by simp
  rcases Nat.eq_zero_or_pos bs.length with h0 | h0
  · obtain rfl := List.eq_nil_of_length_eq_zero h0
    have hn : (([] : List UInt8) == []) = true := rfl
    go_enter Tryd.func55, Tryd.ntmps55
    go_wp2
    go_ret
    exact ⟨rfl, rfl⟩
  have hn : (bs == []) = false := by cases bs; simp at h0; rfl
  have HW := Lib.hid (show wordB bs = (letB bs[0] && bs.all wrd) by rw [wordB_at h0, runN_all])
  obtain ⟨x, hx⟩ : ∃ x, bs[0] = x := ⟨_, rfl⟩
  have hgt : ∀ h, (sv bs)[0]'h = x := fun h => (sv_get bs 0 h).trans hx
  have HX := Lib.hid hx
  have h0i : (0 : Int) < bs.length := by omega
  clear hx
  cases hlet : letB x
  · have HR := Lib.hid (show wordB bs = false by rw [HW.out, HX.out, hlet]; rfl)
    have HLT := Lib.hid hlet
    clear hlet
    go_enter Tryd.func55, Tryd.ntmps55
    go_wp2_with (go_at_call 61; refine (rLetter_is HLT.out _).mono ?_; rintro en w2 ⟨rfl, rfl⟩)
    go_ret
    exact ⟨ret_bool HR.out.symm, rfl⟩
  have HLT := Lib.hid hlet
  have HB := Lib.hid (show wordB bs = bs.all wrd by rw [HW.out, HX.out, hlet]; rfl)
  have H0 := Lib.hid (show wrd bs[0] = true by rw [HX.out]; unfold wrd; rw [hlet]; rfl)
  clear hlet
  go_enter Tryd.func55, Tryd.ntmps55
  go_upto_region 4 with (go_at_call 61; refine (rLetter_is HLT.out _).mono ?_; rintro en w2 ⟨rfl, hw2⟩; subst w2)
  clear hgt HLT
  go_loopw [3] (fun i wr => ∃ j : Nat, 1 ≤ j ∧ j ≤ bs.length ∧ i = .int .i64 j ∧ wr = W ∧ ∀ k (h : k < bs.length), k < j → wrd bs[k] = true) (fun i _ => bs.length - (intOf i).toNat)
  case atStart => exact ⟨1, by omega, by omega, rfl, by trivial, fun k h h2 => by obtain rfl : k = 0 := (by omega); exact H0.out⟩
  case round =>
    obtain ⟨j, hj1, hj, rfl, rfl, hall⟩ := hrel
    have HA := Lib.hid hall
    clear hall
    rcases Nat.lt_or_ge j bs.length with hjl | hjl
    · have d1 : decide (j < bs.length) = true := decide_eq_true hjl
      have hji : (j : Int) < bs.length := by omega
      have hj0 : (0 : Int) ≤ (j : Int) := by omega
      obtain ⟨x, hx⟩ : ∃ x, bs[j] = x := ⟨_, rfl⟩
      have hgt : ∀ h, (sv bs)[j]'h = x := fun h => (sv_get bs j h).trans hx
      have HX := Lib.hid hx
      clear hx
      cases hlet : letB x
      · have HLT := Lib.hid hlet
        cases hdig : digB x
        · have HDG := Lib.hid hdig
          have HR := Lib.hid (show wordB bs = false by
            rw [HB.out]
            rw [Bool.eq_false_iff]
            intro h
            have h2 := List.all_eq_true.1 h bs[j] (List.getElem_mem hjl)
            rw [HX.out] at h2
            unfold wrd at h2
            rw [hlet, hdig] at h2
            exact absurd h2 (by decide))
          clear hlet hdig
          go_wp2_with (first | (go_at_call 61; refine (rLetter_is HLT.out _).mono ?_; rintro en w2 ⟨rfl, rfl⟩) | (go_at_call 62; refine (rDigit_is HDG.out _).mono ?_; rintro en w3 ⟨rfl, rfl⟩))
          go_ret
          exact ⟨ret_bool HR.out.symm, rfl⟩
        · have HDG := Lib.hid hdig
          have HWR := Lib.hid (show wrd x = true by unfold wrd; rw [hdig]; simp)
          clear hlet hdig
          go_wp2_with (first | (go_at_call 61; refine (rLetter_is HLT.out _).mono ?_; rintro en w2 ⟨rfl, rfl⟩) | (go_at_call 62; refine (rDigit_is HDG.out _).mono ?_; rintro en w3 ⟨rfl, rfl⟩))
          exact ⟨⟨j + 1, by omega, by omega, by go_num, by trivial, fun k h hk => by rcases Nat.lt_or_ge k j with h5 | h5; exact HA.out k h h5; obtain rfl : k = j := (by omega); exact HX.out ▸ HWR.out⟩, by simp [intOf]; omega⟩
      · have HLT := Lib.hid hlet
        have HWR := Lib.hid (show wrd x = true by unfold wrd; rw [hlet]; rfl)
        clear hlet
        go_wp2_with (first | (go_at_call 61; refine (rLetter_is HLT.out _).mono ?_; rintro en w2 ⟨rfl, rfl⟩))
        exact ⟨⟨j + 1, by omega, by omega, by go_num, by trivial, fun k h hk => by rcases Nat.lt_or_ge k j with h5 | h5; exact HA.out k h h5; obtain rfl : k = j := (by omega); exact HX.out ▸ HWR.out⟩, by simp [intOf]; omega⟩
    · obtain rfl : j = bs.length := by omega
      have d1 : decide (bs.length < bs.length) = false := by simp
      have HR := Lib.hid (show wordB bs = true by
        rw [HB.out, List.all_eq_true]
        intro y hy
        obtain ⟨k, hk, rfl⟩ := List.getElem_of_mem hy
        exact HA.out k hk hk)
      go_wp2
      go_ret
      exact ⟨ret_bool HR.out.symm, rfl⟩
set_option maxRecDepth 100000 in
set_option maxHeartbeats 4000000 in
theorem rname49 (bs : List UInt8) (W : World) (hl : bs.length ≤ 1000000000) : Calls Tryd.prog 49 #[.string (sv bs)] W (fun en W' => en = .returned (.bool (nameB bs)) ∧ W' = W) := by
  have hsz := sv_size bs
  have hw := rword55 bs W hl
  cases hb : wordB bs
  · rw [hb] at hw
    have HW := Lib.hid hw
    have HR := Lib.hid (show nameB bs = false by unfold nameB; rw [hb]; rfl)
    clear hw hb
    go_enter Tryd.func49, Tryd.ntmps49
    go_wp2_with (go_at_call 55; refine HW.out.mono ?_; rintro en w2 ⟨rfl, rfl⟩)
    go_ret
    exact ⟨ret_bool HR.out.symm, rfl⟩
  · rw [hb] at hw
    have HW := Lib.hid hw
    obtain ⟨b, h24⟩ : ∃ b, decide (bs.length ≤ 24) = b := ⟨_, rfl⟩
    have h24i : decide ((bs.length : Int) ≤ 24) = b := by rw [← h24, Bool.eq_iff_iff, decide_eq_true_eq, decide_eq_true_eq]; omega
    have HR := Lib.hid (show nameB bs = b by unfold nameB; rw [hb, h24]; rfl)
    clear hw hb
    go_enter Tryd.func49, Tryd.ntmps49
    go_wp2_with (go_at_call 55; refine HW.out.mono ?_; rintro en w2 ⟨rfl, rfl⟩)
    go_ret
    exact ⟨ret_bool HR.out.symm, rfl⟩
end Go.Proofs.YtigbmlgllgcbhaaDoor
