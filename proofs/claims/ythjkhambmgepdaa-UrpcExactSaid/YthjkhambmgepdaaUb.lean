/- urpc: which messages are valid. -/
import Derived.Test.YthjkhambmgepdaaUa
import Derived.Test.YthjkhambmgepdaaOps
namespace Go.Proofs.Ythjkhambmgepdaa
open Go.RowKit
set_option linter.unusedVariables false
theorem info97 : (Try.prog.info? 97).map (·.size) = some 5 := by kernel_rfl
/-- A remote message's cells. -/
def RMV (m : RM) (A : Option Addr) (c : Nat) : Array Value := #[.int .i64 m.k, .int .i64 m.n, .int .i64 m.s, .int .i64 m.e, .slice A m.b.length c]
theorem rmv_one (m : RM) (A : Option Addr) (c : Nat) : (RMV m A c).all (·.oneCell') = true := by simp [RMV, Value.oneCell']
theorem rmv_info (m : RM) (A : Option Addr) (c : Nat) : (Try.prog.info? 97).map (·.size) = some (RMV m A c).size := info97
/-- What classify makes of it. -/
def clV (m : RM) (A : Option Addr) (c : Nat) : Value := if m.ok = true then (if m.k = 1 then .iface 186 (.agg #[.int .i64 m.n, .int .i64 m.s, .slice A m.b.length c]) else .iface 188 (.agg #[.int .i64 m.n, .int .i64 m.e, .slice A m.b.length c])) else .nilIface
def ClsP (m : RM) (A : Option Addr) (c : Nat) (W : World) (en : Ending) (W' : World) : Prop := en = .returned (clV m A c) ∧ Below W.heap.size W W'
theorem dt {p : Prop} [Decidable p] (h : p) : decide p = true := decide_eq_true h
theorem df {p : Prop} [Decidable p] (h : ¬ p) : decide p = false := decide_eq_false h
theorem et {a b : Int} (h : a = b) : (a == b) = true := by rw [beq_iff_eq]; exact h
theorem ef {a b : Int} (h : a ≠ b) : (a == b) = false := by rw [beq_eq_false_iff_ne]; exact h
theorem cls_mk {m : RM} {A : Option Addr} {c : Nat} {v : Value} {W W' : World} (h : clV m A c = v) (hb : Below W.heap.size W W') : ClsP m A c W (.returned v) W' := ⟨by rw [h], hb⟩
theorem nt {a b : Int} (h : a ≠ b) : (a != b) = true := by simpa using h
theorem nf {a b : Int} (h : a = b) : (a != b) = false := by simp [h]
theorem clV_bad {m : RM} {A : Option Addr} {c : Nat} (h : m.ok = false) : clV m A c = .nilIface := by unfold clV; rw [h]; rfl
theorem ok_false {m : RM} (h : ¬ m.Ok) : m.ok = false := by
  cases hv : m.ok
  · rfl
  · exact absurd (RM.ok_iff.1 hv) h
set_option maxRecDepth 100000 in
set_option maxHeartbeats 4000000 in
theorem cls_b0 (k n s e : Int) (b : List UInt8) (A : Option Addr) (c : Nat) (W : World) (h : n < 1) (hv : (RM.mk k n s e b).ok = false) : Calls Try.prog 112 #[.agg (RMV ⟨k, n, s, e, b⟩ A c)] W (ClsP ⟨k, n, s, e, b⟩ A c W) := by
  have HV := Lib.hid hv
  clear hv
  have da : decide (n < 1) = true := dt (by omega)
  clear h
  have hB1 := (Below.refl W.heap.size W).alloc (Nat.le_refl _) (.cells (RMV ⟨k, n, s, e, b⟩ A c) 97)
  have r1 := Row.born W 97 (RMV ⟨k, n, s, e, b⟩ A c)
  go_enter Try.func112, Try.ntmps112
  go_upto_region 1 with (fail)
  generalize W.alloc (.cells (RMV ⟨k, n, s, e, b⟩ A c) 97) = w1 at *
  have c0 : w1.cell? ⟨W.heap.size, 0, none⟩ = some (.int .i64 k) := r1.cell 0
  have c1 : w1.cell? ⟨W.heap.size, 1, none⟩ = some (.int .i64 n) := r1.cell 1
  have c2 : w1.cell? ⟨W.heap.size, 2, none⟩ = some (.int .i64 s) := r1.cell 2
  have c3 : w1.cell? ⟨W.heap.size, 3, none⟩ = some (.int .i64 e) := r1.cell 3
  have c4 : w1.cell? ⟨W.heap.size, 4, none⟩ = some (.slice A b.length c) := r1.cell 4
  clear r1
  go_wp2
  go_ret
  exact cls_mk (clV_bad HV.out) hB1
set_option maxRecDepth 100000 in
set_option maxHeartbeats 4000000 in
theorem cls_b1 (k n s e : Int) (b : List UInt8) (A : Option Addr) (c : Nat) (W : World) (h : 1 ≤ n ∧ 1099511627776 < n) (hv : (RM.mk k n s e b).ok = false) : Calls Try.prog 112 #[.agg (RMV ⟨k, n, s, e, b⟩ A c)] W (ClsP ⟨k, n, s, e, b⟩ A c W) := by
  have HV := Lib.hid hv
  clear hv
  have da : decide (n < 1) = false := df (by omega)
  have db : decide (1099511627776 < n) = true := dt (by omega)
  clear h
  have hB1 := (Below.refl W.heap.size W).alloc (Nat.le_refl _) (.cells (RMV ⟨k, n, s, e, b⟩ A c) 97)
  have r1 := Row.born W 97 (RMV ⟨k, n, s, e, b⟩ A c)
  go_enter Try.func112, Try.ntmps112
  go_upto_region 1 with (fail)
  generalize W.alloc (.cells (RMV ⟨k, n, s, e, b⟩ A c) 97) = w1 at *
  have c0 : w1.cell? ⟨W.heap.size, 0, none⟩ = some (.int .i64 k) := r1.cell 0
  have c1 : w1.cell? ⟨W.heap.size, 1, none⟩ = some (.int .i64 n) := r1.cell 1
  have c2 : w1.cell? ⟨W.heap.size, 2, none⟩ = some (.int .i64 s) := r1.cell 2
  have c3 : w1.cell? ⟨W.heap.size, 3, none⟩ = some (.int .i64 e) := r1.cell 3
  have c4 : w1.cell? ⟨W.heap.size, 4, none⟩ = some (.slice A b.length c) := r1.cell 4
  clear r1
  go_wp2
  go_ret
  exact cls_mk (clV_bad HV.out) hB1
set_option maxRecDepth 100000 in
set_option maxHeartbeats 4000000 in
theorem cls_b2 (k n s e : Int) (b : List UInt8) (A : Option Addr) (c : Nat) (W : World) (h : 1 ≤ n ∧ n ≤ 1099511627776 ∧ 65536 < b.length) (hv : (RM.mk k n s e b).ok = false) : Calls Try.prog 112 #[.agg (RMV ⟨k, n, s, e, b⟩ A c)] W (ClsP ⟨k, n, s, e, b⟩ A c W) := by
  have HV := Lib.hid hv
  clear hv
  have da : decide (n < 1) = false := df (by omega)
  have db : decide (1099511627776 < n) = false := df (by omega)
  have dc : decide (65536 < (b.length : Int)) = true := dt (by omega); have dcn : decide (65536 < b.length) = true := dt (by omega)
  clear h
  have hB1 := (Below.refl W.heap.size W).alloc (Nat.le_refl _) (.cells (RMV ⟨k, n, s, e, b⟩ A c) 97)
  have r1 := Row.born W 97 (RMV ⟨k, n, s, e, b⟩ A c)
  go_enter Try.func112, Try.ntmps112
  go_upto_region 1 with (fail)
  generalize W.alloc (.cells (RMV ⟨k, n, s, e, b⟩ A c) 97) = w1 at *
  have c0 : w1.cell? ⟨W.heap.size, 0, none⟩ = some (.int .i64 k) := r1.cell 0
  have c1 : w1.cell? ⟨W.heap.size, 1, none⟩ = some (.int .i64 n) := r1.cell 1
  have c2 : w1.cell? ⟨W.heap.size, 2, none⟩ = some (.int .i64 s) := r1.cell 2
  have c3 : w1.cell? ⟨W.heap.size, 3, none⟩ = some (.int .i64 e) := r1.cell 3
  have c4 : w1.cell? ⟨W.heap.size, 4, none⟩ = some (.slice A b.length c) := r1.cell 4
  clear r1
  go_wp2
  go_ret
  exact cls_mk (clV_bad HV.out) hB1
set_option maxRecDepth 100000 in
set_option maxHeartbeats 4000000 in
theorem cls_b3 (k n s e : Int) (b : List UInt8) (A : Option Addr) (c : Nat) (W : World) (h : 1 ≤ n ∧ n ≤ 1099511627776 ∧ b.length ≤ 65536 ∧ k = 1 ∧ s < 0) (hv : (RM.mk k n s e b).ok = false) : Calls Try.prog 112 #[.agg (RMV ⟨k, n, s, e, b⟩ A c)] W (ClsP ⟨k, n, s, e, b⟩ A c W) := by
  have HV := Lib.hid hv
  clear hv
  have da : decide (n < 1) = false := df (by omega)
  have db : decide (1099511627776 < n) = false := df (by omega)
  have dc : decide (65536 < (b.length : Int)) = false := df (by omega); have dcn : decide (65536 < b.length) = false := df (by omega)
  have dd : (k == 1) = true := et (by omega)
  have de : decide (0 ≤ s) = false := df (by omega)
  have dh : (k == 2) = false := ef (by omega)
  clear h
  have hB1 := (Below.refl W.heap.size W).alloc (Nat.le_refl _) (.cells (RMV ⟨k, n, s, e, b⟩ A c) 97)
  have r1 := Row.born W 97 (RMV ⟨k, n, s, e, b⟩ A c)
  go_enter Try.func112, Try.ntmps112
  go_upto_region 1 with (fail)
  generalize W.alloc (.cells (RMV ⟨k, n, s, e, b⟩ A c) 97) = w1 at *
  have c0 : w1.cell? ⟨W.heap.size, 0, none⟩ = some (.int .i64 k) := r1.cell 0
  have c1 : w1.cell? ⟨W.heap.size, 1, none⟩ = some (.int .i64 n) := r1.cell 1
  have c2 : w1.cell? ⟨W.heap.size, 2, none⟩ = some (.int .i64 s) := r1.cell 2
  have c3 : w1.cell? ⟨W.heap.size, 3, none⟩ = some (.int .i64 e) := r1.cell 3
  have c4 : w1.cell? ⟨W.heap.size, 4, none⟩ = some (.slice A b.length c) := r1.cell 4
  clear r1
  go_wp2
  go_ret
  exact cls_mk (clV_bad HV.out) hB1
set_option maxRecDepth 100000 in
set_option maxHeartbeats 4000000 in
theorem cls_b4 (k n s e : Int) (b : List UInt8) (A : Option Addr) (c : Nat) (W : World) (h : 1 ≤ n ∧ n ≤ 1099511627776 ∧ b.length ≤ 65536 ∧ k = 1 ∧ 0 ≤ s ∧ 65535 < s) (hv : (RM.mk k n s e b).ok = false) : Calls Try.prog 112 #[.agg (RMV ⟨k, n, s, e, b⟩ A c)] W (ClsP ⟨k, n, s, e, b⟩ A c W) := by
  have HV := Lib.hid hv
  clear hv
  have da : decide (n < 1) = false := df (by omega)
  have db : decide (1099511627776 < n) = false := df (by omega)
  have dc : decide (65536 < (b.length : Int)) = false := df (by omega); have dcn : decide (65536 < b.length) = false := df (by omega)
  have dd : (k == 1) = true := et (by omega)
  have de : decide (0 ≤ s) = true := dt (by omega)
  have dp : decide (s ≤ 65535) = false := df (by omega)
  have dh : (k == 2) = false := ef (by omega)
  clear h
  have hB1 := (Below.refl W.heap.size W).alloc (Nat.le_refl _) (.cells (RMV ⟨k, n, s, e, b⟩ A c) 97)
  have r1 := Row.born W 97 (RMV ⟨k, n, s, e, b⟩ A c)
  go_enter Try.func112, Try.ntmps112
  go_upto_region 1 with (fail)
  generalize W.alloc (.cells (RMV ⟨k, n, s, e, b⟩ A c) 97) = w1 at *
  have c0 : w1.cell? ⟨W.heap.size, 0, none⟩ = some (.int .i64 k) := r1.cell 0
  have c1 : w1.cell? ⟨W.heap.size, 1, none⟩ = some (.int .i64 n) := r1.cell 1
  have c2 : w1.cell? ⟨W.heap.size, 2, none⟩ = some (.int .i64 s) := r1.cell 2
  have c3 : w1.cell? ⟨W.heap.size, 3, none⟩ = some (.int .i64 e) := r1.cell 3
  have c4 : w1.cell? ⟨W.heap.size, 4, none⟩ = some (.slice A b.length c) := r1.cell 4
  clear r1
  go_wp2
  go_ret
  exact cls_mk (clV_bad HV.out) hB1
set_option maxRecDepth 100000 in
set_option maxHeartbeats 4000000 in
theorem cls_b5 (k n s e : Int) (b : List UInt8) (A : Option Addr) (c : Nat) (W : World) (h : 1 ≤ n ∧ n ≤ 1099511627776 ∧ b.length ≤ 65536 ∧ k = 1 ∧ 0 ≤ s ∧ s ≤ 65535 ∧ e ≠ 0) (hv : (RM.mk k n s e b).ok = false) : Calls Try.prog 112 #[.agg (RMV ⟨k, n, s, e, b⟩ A c)] W (ClsP ⟨k, n, s, e, b⟩ A c W) := by
  have HV := Lib.hid hv
  clear hv
  have da : decide (n < 1) = false := df (by omega)
  have db : decide (1099511627776 < n) = false := df (by omega)
  have dc : decide (65536 < (b.length : Int)) = false := df (by omega); have dcn : decide (65536 < b.length) = false := df (by omega)
  have dd : (k == 1) = true := et (by omega)
  have de : decide (0 ≤ s) = true := dt (by omega)
  have dp : decide (s ≤ 65535) = true := dt (by omega)
  have dg : (e == 0) = false := ef (by omega)
  have dh : (k == 2) = false := ef (by omega)
  clear h
  have hB1 := (Below.refl W.heap.size W).alloc (Nat.le_refl _) (.cells (RMV ⟨k, n, s, e, b⟩ A c) 97)
  have r1 := Row.born W 97 (RMV ⟨k, n, s, e, b⟩ A c)
  go_enter Try.func112, Try.ntmps112
  go_upto_region 1 with (fail)
  generalize W.alloc (.cells (RMV ⟨k, n, s, e, b⟩ A c) 97) = w1 at *
  have c0 : w1.cell? ⟨W.heap.size, 0, none⟩ = some (.int .i64 k) := r1.cell 0
  have c1 : w1.cell? ⟨W.heap.size, 1, none⟩ = some (.int .i64 n) := r1.cell 1
  have c2 : w1.cell? ⟨W.heap.size, 2, none⟩ = some (.int .i64 s) := r1.cell 2
  have c3 : w1.cell? ⟨W.heap.size, 3, none⟩ = some (.int .i64 e) := r1.cell 3
  have c4 : w1.cell? ⟨W.heap.size, 4, none⟩ = some (.slice A b.length c) := r1.cell 4
  clear r1
  go_wp2
  go_ret
  exact cls_mk (clV_bad HV.out) hB1
set_option maxRecDepth 100000 in
set_option maxHeartbeats 4000000 in
theorem cls_b6 (k n s e : Int) (b : List UInt8) (A : Option Addr) (c : Nat) (W : World) (h : 1 ≤ n ∧ n ≤ 1099511627776 ∧ b.length ≤ 65536 ∧ k ≠ 1 ∧ k ≠ 2) (hv : (RM.mk k n s e b).ok = false) : Calls Try.prog 112 #[.agg (RMV ⟨k, n, s, e, b⟩ A c)] W (ClsP ⟨k, n, s, e, b⟩ A c W) := by
  have HV := Lib.hid hv
  clear hv
  have da : decide (n < 1) = false := df (by omega)
  have db : decide (1099511627776 < n) = false := df (by omega)
  have dc : decide (65536 < (b.length : Int)) = false := df (by omega); have dcn : decide (65536 < b.length) = false := df (by omega)
  have dd : (k == 1) = false := ef (by omega)
  have dh : (k == 2) = false := ef (by omega)
  clear h
  have hB1 := (Below.refl W.heap.size W).alloc (Nat.le_refl _) (.cells (RMV ⟨k, n, s, e, b⟩ A c) 97)
  have r1 := Row.born W 97 (RMV ⟨k, n, s, e, b⟩ A c)
  go_enter Try.func112, Try.ntmps112
  go_upto_region 1 with (fail)
  generalize W.alloc (.cells (RMV ⟨k, n, s, e, b⟩ A c) 97) = w1 at *
  have c0 : w1.cell? ⟨W.heap.size, 0, none⟩ = some (.int .i64 k) := r1.cell 0
  have c1 : w1.cell? ⟨W.heap.size, 1, none⟩ = some (.int .i64 n) := r1.cell 1
  have c2 : w1.cell? ⟨W.heap.size, 2, none⟩ = some (.int .i64 s) := r1.cell 2
  have c3 : w1.cell? ⟨W.heap.size, 3, none⟩ = some (.int .i64 e) := r1.cell 3
  have c4 : w1.cell? ⟨W.heap.size, 4, none⟩ = some (.slice A b.length c) := r1.cell 4
  clear r1
  go_wp2
  go_ret
  exact cls_mk (clV_bad HV.out) hB1
set_option maxRecDepth 100000 in
set_option maxHeartbeats 4000000 in
theorem cls_b7 (k n s e : Int) (b : List UInt8) (A : Option Addr) (c : Nat) (W : World) (h : 1 ≤ n ∧ n ≤ 1099511627776 ∧ b.length ≤ 65536 ∧ k = 2 ∧ s ≠ 0) (hv : (RM.mk k n s e b).ok = false) : Calls Try.prog 112 #[.agg (RMV ⟨k, n, s, e, b⟩ A c)] W (ClsP ⟨k, n, s, e, b⟩ A c W) := by
  have HV := Lib.hid hv
  clear hv
  have da : decide (n < 1) = false := df (by omega)
  have db : decide (1099511627776 < n) = false := df (by omega)
  have dc : decide (65536 < (b.length : Int)) = false := df (by omega); have dcn : decide (65536 < b.length) = false := df (by omega)
  have dd : (k == 1) = false := ef (by omega)
  have dh : (k == 2) = true := et (by omega)
  have di : (s == 0) = false := ef (by omega)
  clear h
  have hB1 := (Below.refl W.heap.size W).alloc (Nat.le_refl _) (.cells (RMV ⟨k, n, s, e, b⟩ A c) 97)
  have r1 := Row.born W 97 (RMV ⟨k, n, s, e, b⟩ A c)
  go_enter Try.func112, Try.ntmps112
  go_upto_region 1 with (fail)
  generalize W.alloc (.cells (RMV ⟨k, n, s, e, b⟩ A c) 97) = w1 at *
  have c0 : w1.cell? ⟨W.heap.size, 0, none⟩ = some (.int .i64 k) := r1.cell 0
  have c1 : w1.cell? ⟨W.heap.size, 1, none⟩ = some (.int .i64 n) := r1.cell 1
  have c2 : w1.cell? ⟨W.heap.size, 2, none⟩ = some (.int .i64 s) := r1.cell 2
  have c3 : w1.cell? ⟨W.heap.size, 3, none⟩ = some (.int .i64 e) := r1.cell 3
  have c4 : w1.cell? ⟨W.heap.size, 4, none⟩ = some (.slice A b.length c) := r1.cell 4
  clear r1
  go_wp2
  go_ret
  exact cls_mk (clV_bad HV.out) hB1
set_option maxRecDepth 100000 in
set_option maxHeartbeats 4000000 in
theorem cls_b8 (k n s e : Int) (b : List UInt8) (A : Option Addr) (c : Nat) (W : World) (h : 1 ≤ n ∧ n ≤ 1099511627776 ∧ b.length ≤ 65536 ∧ k = 2 ∧ s = 0 ∧ e < 0) (hv : (RM.mk k n s e b).ok = false) : Calls Try.prog 112 #[.agg (RMV ⟨k, n, s, e, b⟩ A c)] W (ClsP ⟨k, n, s, e, b⟩ A c W) := by
  have HV := Lib.hid hv
  clear hv
  have da : decide (n < 1) = false := df (by omega)
  have db : decide (1099511627776 < n) = false := df (by omega)
  have dc : decide (65536 < (b.length : Int)) = false := df (by omega); have dcn : decide (65536 < b.length) = false := df (by omega)
  have dd : (k == 1) = false := ef (by omega)
  have dh : (k == 2) = true := et (by omega)
  have di : (s == 0) = true := et (by omega)
  have dj : decide (0 ≤ e) = false := df (by omega)
  clear h
  have hB1 := (Below.refl W.heap.size W).alloc (Nat.le_refl _) (.cells (RMV ⟨k, n, s, e, b⟩ A c) 97)
  have r1 := Row.born W 97 (RMV ⟨k, n, s, e, b⟩ A c)
  go_enter Try.func112, Try.ntmps112
  go_upto_region 1 with (fail)
  generalize W.alloc (.cells (RMV ⟨k, n, s, e, b⟩ A c) 97) = w1 at *
  have c0 : w1.cell? ⟨W.heap.size, 0, none⟩ = some (.int .i64 k) := r1.cell 0
  have c1 : w1.cell? ⟨W.heap.size, 1, none⟩ = some (.int .i64 n) := r1.cell 1
  have c2 : w1.cell? ⟨W.heap.size, 2, none⟩ = some (.int .i64 s) := r1.cell 2
  have c3 : w1.cell? ⟨W.heap.size, 3, none⟩ = some (.int .i64 e) := r1.cell 3
  have c4 : w1.cell? ⟨W.heap.size, 4, none⟩ = some (.slice A b.length c) := r1.cell 4
  clear r1
  go_wp2
  go_ret
  exact cls_mk (clV_bad HV.out) hB1
set_option maxRecDepth 100000 in
set_option maxHeartbeats 4000000 in
theorem cls_b9 (k n s e : Int) (b : List UInt8) (A : Option Addr) (c : Nat) (W : World) (h : 1 ≤ n ∧ n ≤ 1099511627776 ∧ b.length ≤ 65536 ∧ k = 2 ∧ s = 0 ∧ 0 ≤ e ∧ 255 < e) (hv : (RM.mk k n s e b).ok = false) : Calls Try.prog 112 #[.agg (RMV ⟨k, n, s, e, b⟩ A c)] W (ClsP ⟨k, n, s, e, b⟩ A c W) := by
  have HV := Lib.hid hv
  clear hv
  have da : decide (n < 1) = false := df (by omega)
  have db : decide (1099511627776 < n) = false := df (by omega)
  have dc : decide (65536 < (b.length : Int)) = false := df (by omega); have dcn : decide (65536 < b.length) = false := df (by omega)
  have dd : (k == 1) = false := ef (by omega)
  have dh : (k == 2) = true := et (by omega)
  have di : (s == 0) = true := et (by omega)
  have dj : decide (0 ≤ e) = true := dt (by omega)
  have dl : decide (e ≤ 255) = false := df (by omega)
  clear h
  have hB1 := (Below.refl W.heap.size W).alloc (Nat.le_refl _) (.cells (RMV ⟨k, n, s, e, b⟩ A c) 97)
  have r1 := Row.born W 97 (RMV ⟨k, n, s, e, b⟩ A c)
  go_enter Try.func112, Try.ntmps112
  go_upto_region 1 with (fail)
  generalize W.alloc (.cells (RMV ⟨k, n, s, e, b⟩ A c) 97) = w1 at *
  have c0 : w1.cell? ⟨W.heap.size, 0, none⟩ = some (.int .i64 k) := r1.cell 0
  have c1 : w1.cell? ⟨W.heap.size, 1, none⟩ = some (.int .i64 n) := r1.cell 1
  have c2 : w1.cell? ⟨W.heap.size, 2, none⟩ = some (.int .i64 s) := r1.cell 2
  have c3 : w1.cell? ⟨W.heap.size, 3, none⟩ = some (.int .i64 e) := r1.cell 3
  have c4 : w1.cell? ⟨W.heap.size, 4, none⟩ = some (.slice A b.length c) := r1.cell 4
  clear r1
  go_wp2
  go_ret
  exact cls_mk (clV_bad HV.out) hB1
set_option maxRecDepth 100000 in
set_option maxHeartbeats 4000000 in
theorem cls_b10 (k n s e : Int) (b : List UInt8) (A : Option Addr) (c : Nat) (W : World) (h : 1 ≤ n ∧ n ≤ 1099511627776 ∧ b.length ≤ 65536 ∧ k = 2 ∧ s = 0 ∧ 0 ≤ e ∧ e ≤ 255 ∧ e ≠ 0 ∧ b.length ≠ 0) (hv : (RM.mk k n s e b).ok = false) : Calls Try.prog 112 #[.agg (RMV ⟨k, n, s, e, b⟩ A c)] W (ClsP ⟨k, n, s, e, b⟩ A c W) := by
  have HV := Lib.hid hv
  clear hv
  have da : decide (n < 1) = false := df (by omega)
  have db : decide (1099511627776 < n) = false := df (by omega)
  have dc : decide (65536 < (b.length : Int)) = false := df (by omega); have dcn : decide (65536 < b.length) = false := df (by omega)
  have dd : (k == 1) = false := ef (by omega)
  have dh : (k == 2) = true := et (by omega)
  have di : (s == 0) = true := et (by omega)
  have dj : decide (0 ≤ e) = true := dt (by omega)
  have dl : decide (e ≤ 255) = true := dt (by omega)
  have dm : (e == 0) = false := ef (by omega)
  have dq : ((b.length : Int) == 0) = false := ef (by omega); have dqn : (b.length == 0) = false := by simpa using (show b.length ≠ 0 by omega)
  clear h
  have hB1 := (Below.refl W.heap.size W).alloc (Nat.le_refl _) (.cells (RMV ⟨k, n, s, e, b⟩ A c) 97)
  have r1 := Row.born W 97 (RMV ⟨k, n, s, e, b⟩ A c)
  go_enter Try.func112, Try.ntmps112
  go_upto_region 1 with (fail)
  generalize W.alloc (.cells (RMV ⟨k, n, s, e, b⟩ A c) 97) = w1 at *
  have c0 : w1.cell? ⟨W.heap.size, 0, none⟩ = some (.int .i64 k) := r1.cell 0
  have c1 : w1.cell? ⟨W.heap.size, 1, none⟩ = some (.int .i64 n) := r1.cell 1
  have c2 : w1.cell? ⟨W.heap.size, 2, none⟩ = some (.int .i64 s) := r1.cell 2
  have c3 : w1.cell? ⟨W.heap.size, 3, none⟩ = some (.int .i64 e) := r1.cell 3
  have c4 : w1.cell? ⟨W.heap.size, 4, none⟩ = some (.slice A b.length c) := r1.cell 4
  clear r1
  go_wp2
  go_ret
  exact cls_mk (clV_bad HV.out) hB1
set_option maxRecDepth 100000 in
set_option maxHeartbeats 4000000 in
theorem cls_request (k n s e : Int) (b : List UInt8) (A : Option Addr) (c : Nat) (W : World) (h : k = 1 ∧ 1 ≤ n ∧ n ≤ 1099511627776 ∧ b.length ≤ 65536 ∧ 0 ≤ s ∧ s ≤ 65535 ∧ e = 0) (hv : (RM.mk k n s e b).ok = true) : Calls Try.prog 112 #[.agg (RMV ⟨k, n, s, e, b⟩ A c)] W (ClsP ⟨k, n, s, e, b⟩ A c W) := by
  have HC := Lib.hid (show clV ⟨k, n, s, e, b⟩ A c = .iface 186 (.agg #[.int .i64 n, .int .i64 s, .slice A b.length c]) by
    unfold clV
    rw [if_pos hv, if_pos h.1])
  clear hv
  have da : decide (n < 1) = false := df (by omega)
  have db : decide (1099511627776 < n) = false := df (by omega)
  have dc : decide (65536 < (b.length : Int)) = false := df (by omega); have dcn : decide (65536 < b.length) = false := df (by omega)
  have dd : (k == 1) = true := et (by omega)
  have de : decide (0 ≤ s) = true := dt (by omega)
  have dp : decide (s ≤ 65535) = true := dt (by omega)
  have dg : (e == 0) = true := et (by omega)
  clear h
  have hB1 := (Below.refl W.heap.size W).alloc (Nat.le_refl _) (.cells (RMV ⟨k, n, s, e, b⟩ A c) 97)
  have r1 := Row.born W 97 (RMV ⟨k, n, s, e, b⟩ A c)
  go_enter Try.func112, Try.ntmps112
  go_upto_region 1 with (fail)
  generalize W.alloc (.cells (RMV ⟨k, n, s, e, b⟩ A c) 97) = w1 at *
  have c0 : w1.cell? ⟨W.heap.size, 0, none⟩ = some (.int .i64 k) := r1.cell 0
  have c1 : w1.cell? ⟨W.heap.size, 1, none⟩ = some (.int .i64 n) := r1.cell 1
  have c2 : w1.cell? ⟨W.heap.size, 2, none⟩ = some (.int .i64 s) := r1.cell 2
  have c3 : w1.cell? ⟨W.heap.size, 3, none⟩ = some (.int .i64 e) := r1.cell 3
  have c4 : w1.cell? ⟨W.heap.size, 4, none⟩ = some (.slice A b.length c) := r1.cell 4
  clear r1
  go_wp2
  go_ret
  exact cls_mk HC.out hB1
set_option maxRecDepth 100000 in
set_option maxHeartbeats 4000000 in
theorem cls_reply0 (k n s e : Int) (b : List UInt8) (A : Option Addr) (c : Nat) (W : World) (h : k = 2 ∧ 1 ≤ n ∧ n ≤ 1099511627776 ∧ b.length ≤ 65536 ∧ s = 0 ∧ e = 0) (hv : (RM.mk k n s e b).ok = true) : Calls Try.prog 112 #[.agg (RMV ⟨k, n, s, e, b⟩ A c)] W (ClsP ⟨k, n, s, e, b⟩ A c W) := by
  have HC := Lib.hid (show clV ⟨k, n, s, e, b⟩ A c = .iface 188 (.agg #[.int .i64 n, .int .i64 e, .slice A b.length c]) by
    unfold clV
    rw [if_pos hv, if_neg (by show ¬ k = 1; omega)])
  clear hv
  have da : decide (n < 1) = false := df (by omega)
  have db : decide (1099511627776 < n) = false := df (by omega)
  have dc : decide (65536 < (b.length : Int)) = false := df (by omega); have dcn : decide (65536 < b.length) = false := df (by omega)
  have dd : (k == 1) = false := ef (by omega)
  have dh : (k == 2) = true := et (by omega)
  have di : (s == 0) = true := et (by omega)
  have dj : decide (0 ≤ e) = true := dt (by omega)
  have dl : decide (e ≤ 255) = true := dt (by omega)
  have dm : (e == 0) = true := et (by omega)
  clear h
  have hB1 := (Below.refl W.heap.size W).alloc (Nat.le_refl _) (.cells (RMV ⟨k, n, s, e, b⟩ A c) 97)
  have r1 := Row.born W 97 (RMV ⟨k, n, s, e, b⟩ A c)
  go_enter Try.func112, Try.ntmps112
  go_upto_region 1 with (fail)
  generalize W.alloc (.cells (RMV ⟨k, n, s, e, b⟩ A c) 97) = w1 at *
  have c0 : w1.cell? ⟨W.heap.size, 0, none⟩ = some (.int .i64 k) := r1.cell 0
  have c1 : w1.cell? ⟨W.heap.size, 1, none⟩ = some (.int .i64 n) := r1.cell 1
  have c2 : w1.cell? ⟨W.heap.size, 2, none⟩ = some (.int .i64 s) := r1.cell 2
  have c3 : w1.cell? ⟨W.heap.size, 3, none⟩ = some (.int .i64 e) := r1.cell 3
  have c4 : w1.cell? ⟨W.heap.size, 4, none⟩ = some (.slice A b.length c) := r1.cell 4
  clear r1
  go_wp2
  go_ret
  exact cls_mk HC.out hB1
set_option maxRecDepth 100000 in
set_option maxHeartbeats 4000000 in
theorem cls_reply1 (k n s e : Int) (b : List UInt8) (A : Option Addr) (c : Nat) (W : World) (h : k = 2 ∧ 1 ≤ n ∧ n ≤ 1099511627776 ∧ b.length ≤ 65536 ∧ s = 0 ∧ 0 ≤ e ∧ e ≤ 255 ∧ e ≠ 0 ∧ b.length = 0) (hv : (RM.mk k n s e b).ok = true) : Calls Try.prog 112 #[.agg (RMV ⟨k, n, s, e, b⟩ A c)] W (ClsP ⟨k, n, s, e, b⟩ A c W) := by
  have HC := Lib.hid (show clV ⟨k, n, s, e, b⟩ A c = .iface 188 (.agg #[.int .i64 n, .int .i64 e, .slice A b.length c]) by
    unfold clV
    rw [if_pos hv, if_neg (by show ¬ k = 1; omega)])
  clear hv
  have da : decide (n < 1) = false := df (by omega)
  have db : decide (1099511627776 < n) = false := df (by omega)
  have dc : decide (65536 < (b.length : Int)) = false := df (by omega); have dcn : decide (65536 < b.length) = false := df (by omega)
  have dd : (k == 1) = false := ef (by omega)
  have dh : (k == 2) = true := et (by omega)
  have di : (s == 0) = true := et (by omega)
  have dj : decide (0 ≤ e) = true := dt (by omega)
  have dl : decide (e ≤ 255) = true := dt (by omega)
  have dm : (e == 0) = false := ef (by omega)
  have dq : ((b.length : Int) == 0) = true := et (by omega); have dqn : (b.length == 0) = true := by simpa using (show b.length = 0 by omega)
  clear h
  have hB1 := (Below.refl W.heap.size W).alloc (Nat.le_refl _) (.cells (RMV ⟨k, n, s, e, b⟩ A c) 97)
  have r1 := Row.born W 97 (RMV ⟨k, n, s, e, b⟩ A c)
  go_enter Try.func112, Try.ntmps112
  go_upto_region 1 with (fail)
  generalize W.alloc (.cells (RMV ⟨k, n, s, e, b⟩ A c) 97) = w1 at *
  have c0 : w1.cell? ⟨W.heap.size, 0, none⟩ = some (.int .i64 k) := r1.cell 0
  have c1 : w1.cell? ⟨W.heap.size, 1, none⟩ = some (.int .i64 n) := r1.cell 1
  have c2 : w1.cell? ⟨W.heap.size, 2, none⟩ = some (.int .i64 s) := r1.cell 2
  have c3 : w1.cell? ⟨W.heap.size, 3, none⟩ = some (.int .i64 e) := r1.cell 3
  have c4 : w1.cell? ⟨W.heap.size, 4, none⟩ = some (.slice A b.length c) := r1.cell 4
  clear r1
  go_wp2
  go_ret
  exact cls_mk HC.out hB1
theorem classify (m : RM) (A : Option Addr) (c : Nat) (W : World) : Calls Try.prog 112 #[.agg (RMV m A c)] W (ClsP m A c W) := by
  obtain ⟨k, n, s, e, b⟩ := m
  by_cases hv : (RM.mk k n s e b).Ok
  · have ho := RM.ok_iff.2 hv
    obtain ⟨h1, h2, h3, h4⟩ := hv
    simp only at h1 h2 h3 h4
    rcases h4 with ⟨h4, h5, h6, h7⟩ | ⟨h4, h5, h6, h7, h8⟩
    · exact cls_request k n s e b A c W ⟨h4, h1, h2, h3, h5, h6, h7⟩ ho
    · by_cases h9 : e = 0
      · exact cls_reply0 k n s e b A c W ⟨h4, h1, h2, h3, h5, h9⟩ ho
      · exact cls_reply1 k n s e b A c W ⟨h4, h1, h2, h3, h5, h6, h7, h9, h8.resolve_left h9⟩ ho
  · have ho := ok_false hv
    have hx : (n < 1) ∨ (1 ≤ n ∧ 1099511627776 < n) ∨ (1 ≤ n ∧ n ≤ 1099511627776 ∧ 65536 < b.length) ∨ (1 ≤ n ∧ n ≤ 1099511627776 ∧ b.length ≤ 65536 ∧ k = 1 ∧ s < 0) ∨ (1 ≤ n ∧ n ≤ 1099511627776 ∧ b.length ≤ 65536 ∧ k = 1 ∧ 0 ≤ s ∧ 65535 < s) ∨ (1 ≤ n ∧ n ≤ 1099511627776 ∧ b.length ≤ 65536 ∧ k = 1 ∧ 0 ≤ s ∧ s ≤ 65535 ∧ e ≠ 0) ∨ (1 ≤ n ∧ n ≤ 1099511627776 ∧ b.length ≤ 65536 ∧ k ≠ 1 ∧ k ≠ 2) ∨ (1 ≤ n ∧ n ≤ 1099511627776 ∧ b.length ≤ 65536 ∧ k = 2 ∧ s ≠ 0) ∨ (1 ≤ n ∧ n ≤ 1099511627776 ∧ b.length ≤ 65536 ∧ k = 2 ∧ s = 0 ∧ e < 0) ∨ (1 ≤ n ∧ n ≤ 1099511627776 ∧ b.length ≤ 65536 ∧ k = 2 ∧ s = 0 ∧ 0 ≤ e ∧ 255 < e) ∨ (1 ≤ n ∧ n ≤ 1099511627776 ∧ b.length ≤ 65536 ∧ k = 2 ∧ s = 0 ∧ 0 ≤ e ∧ e ≤ 255 ∧ e ≠ 0 ∧ b.length ≠ 0) := by
      rcases Int.lt_or_le n 1 with a1 | a1
      · exact .inl a1
      rcases Int.lt_or_le 1099511627776 n with a2 | a2
      · exact .inr (.inl ⟨a1, a2⟩)
      rcases Nat.lt_or_ge 65536 b.length with a3 | a3
      · exact .inr (.inr (.inl ⟨a1, a2, a3⟩))
      by_cases a4 : (k = 1 ∧ 0 ≤ s ∧ s ≤ 65535 ∧ e = 0) ∨ (k = 2 ∧ s = 0 ∧ 0 ≤ e ∧ e ≤ 255 ∧ (e = 0 ∨ b.length = 0))
      · exact absurd ⟨a1, a2, a3, a4⟩ hv
      · omega
    clear hv
    rcases hx with h | h | h | h | h | h | h | h | h | h | h
    · exact cls_b0 k n s e b A c W h ho
    · exact cls_b1 k n s e b A c W h ho
    · exact cls_b2 k n s e b A c W h ho
    · exact cls_b3 k n s e b A c W h ho
    · exact cls_b4 k n s e b A c W h ho
    · exact cls_b5 k n s e b A c W h ho
    · exact cls_b6 k n s e b A c W h ho
    · exact cls_b7 k n s e b A c W h ho
    · exact cls_b8 k n s e b A c W h ho
    · exact cls_b9 k n s e b A c W h ho
    · exact cls_b10 k n s e b A c W h ho
set_option maxRecDepth 100000 in
set_option maxHeartbeats 4000000 in
theorem fields_186 (n d : Int) (A : Option Addr) (l c : Nat) (W : World) : Calls Try.prog 159 #[.agg #[.int .i64 n, .int .i64 d, .slice A l c]] W (fun en W' => en = .returned (.tuple #[.int .i64 n, .int .i64 d]) ∧ Below W.heap.size W W') := by
  have hB1 := (Below.refl W.heap.size W).alloc (Nat.le_refl _) (.cells #[.int .i64 n, .int .i64 d, .slice A l c] 186)
  have r1 := Row.born W 186 #[.int .i64 n, .int .i64 d, .slice A l c]
  go_enter Try.func159, Try.ntmps159
  go_upto_region 1 with (fail)
  generalize W.alloc (.cells #[.int .i64 n, .int .i64 d, .slice A l c] 186) = w1 at *
  have c0 : w1.cell? ⟨W.heap.size, 0, none⟩ = some (.int .i64 n) := r1.cell 0
  have c1 : w1.cell? ⟨W.heap.size, 1, none⟩ = some (.int .i64 d) := r1.cell 1
  clear r1
  go_region
  go_wp2
  refine bodyPost_ret (v := .tuple #[.int .i64 n, .int .i64 d]) (by simp [results, Try.results159, go_sem]) rfl ?_
  exact ⟨rfl, hB1.drew⟩
set_option maxRecDepth 100000 in
set_option maxHeartbeats 4000000 in
theorem fields_188 (n d : Int) (A : Option Addr) (l c : Nat) (W : World) : Calls Try.prog 160 #[.agg #[.int .i64 n, .int .i64 d, .slice A l c]] W (fun en W' => en = .returned (.tuple #[.int .i64 n, .int .i64 d]) ∧ Below W.heap.size W W') := by
  have hB1 := (Below.refl W.heap.size W).alloc (Nat.le_refl _) (.cells #[.int .i64 n, .int .i64 d, .slice A l c] 188)
  have r1 := Row.born W 188 #[.int .i64 n, .int .i64 d, .slice A l c]
  go_enter Try.func160, Try.ntmps160
  go_upto_region 1 with (fail)
  generalize W.alloc (.cells #[.int .i64 n, .int .i64 d, .slice A l c] 188) = w1 at *
  have c0 : w1.cell? ⟨W.heap.size, 0, none⟩ = some (.int .i64 n) := r1.cell 0
  have c1 : w1.cell? ⟨W.heap.size, 1, none⟩ = some (.int .i64 d) := r1.cell 1
  clear r1
  go_region
  go_wp2
  refine bodyPost_ret (v := .tuple #[.int .i64 n, .int .i64 d]) (by simp [results, Try.results160, go_sem]) rfl ?_
  exact ⟨rfl, hB1.drew⟩
def VrmP (m : RM) (W : World) (en : Ending) (W' : World) : Prop := en = .returned (.bool m.ok) ∧ Below W.heap.size W W'
theorem vrm_mk {m : RM} {v : Bool} {W W' : World} (h : m.ok = v) (hb : Below W.heap.size W W') : VrmP m W (.returned (.bool v)) W' := ⟨by rw [h], hb⟩
set_option maxRecDepth 100000 in
set_option maxHeartbeats 4000000 in
theorem vr_b0 (k n s e : Int) (b : List UInt8) (A : Option Addr) (c : Nat) (W : World) (h : n < 1) (hv : (RM.mk k n s e b).ok = false) : Calls Try.prog 66 #[.agg (RMV ⟨k, n, s, e, b⟩ A c)] W (VrmP ⟨k, n, s, e, b⟩ W) := by
  have HV := Lib.hid hv
  clear hv
  have da : decide (n < 1) = true := dt (by omega)
  clear h
  have hB1 := (Below.refl W.heap.size W).alloc (Nat.le_refl _) (.cells (RMV ⟨k, n, s, e, b⟩ A c) 97)
  have r1 := Row.born W 97 (RMV ⟨k, n, s, e, b⟩ A c)
  go_enter Try.func66, Try.ntmps66
  go_upto_region 1 with (fail)
  generalize W.alloc (.cells (RMV ⟨k, n, s, e, b⟩ A c) 97) = w1 at *
  have c0 : w1.cell? ⟨W.heap.size, 0, none⟩ = some (.int .i64 k) := r1.cell 0
  have c1 : w1.cell? ⟨W.heap.size, 1, none⟩ = some (.int .i64 n) := r1.cell 1
  have c2 : w1.cell? ⟨W.heap.size, 2, none⟩ = some (.int .i64 s) := r1.cell 2
  have c3 : w1.cell? ⟨W.heap.size, 3, none⟩ = some (.int .i64 e) := r1.cell 3
  have c4 : w1.cell? ⟨W.heap.size, 4, none⟩ = some (.slice A b.length c) := r1.cell 4
  clear r1
  go_wp2
  go_ret
  exact vrm_mk HV.out hB1
set_option maxRecDepth 100000 in
set_option maxHeartbeats 4000000 in
theorem vr_b1 (k n s e : Int) (b : List UInt8) (A : Option Addr) (c : Nat) (W : World) (h : 1 ≤ n ∧ 1099511627776 < n) (hv : (RM.mk k n s e b).ok = false) : Calls Try.prog 66 #[.agg (RMV ⟨k, n, s, e, b⟩ A c)] W (VrmP ⟨k, n, s, e, b⟩ W) := by
  have HV := Lib.hid hv
  clear hv
  have da : decide (n < 1) = false := df (by omega)
  have db : decide (1099511627776 < n) = true := dt (by omega)
  clear h
  have hB1 := (Below.refl W.heap.size W).alloc (Nat.le_refl _) (.cells (RMV ⟨k, n, s, e, b⟩ A c) 97)
  have r1 := Row.born W 97 (RMV ⟨k, n, s, e, b⟩ A c)
  go_enter Try.func66, Try.ntmps66
  go_upto_region 1 with (fail)
  generalize W.alloc (.cells (RMV ⟨k, n, s, e, b⟩ A c) 97) = w1 at *
  have c0 : w1.cell? ⟨W.heap.size, 0, none⟩ = some (.int .i64 k) := r1.cell 0
  have c1 : w1.cell? ⟨W.heap.size, 1, none⟩ = some (.int .i64 n) := r1.cell 1
  have c2 : w1.cell? ⟨W.heap.size, 2, none⟩ = some (.int .i64 s) := r1.cell 2
  have c3 : w1.cell? ⟨W.heap.size, 3, none⟩ = some (.int .i64 e) := r1.cell 3
  have c4 : w1.cell? ⟨W.heap.size, 4, none⟩ = some (.slice A b.length c) := r1.cell 4
  clear r1
  go_wp2
  go_ret
  exact vrm_mk HV.out hB1
set_option maxRecDepth 100000 in
set_option maxHeartbeats 4000000 in
theorem vr_b2 (k n s e : Int) (b : List UInt8) (A : Option Addr) (c : Nat) (W : World) (h : 1 ≤ n ∧ n ≤ 1099511627776 ∧ 65536 < b.length) (hv : (RM.mk k n s e b).ok = false) : Calls Try.prog 66 #[.agg (RMV ⟨k, n, s, e, b⟩ A c)] W (VrmP ⟨k, n, s, e, b⟩ W) := by
  have HV := Lib.hid hv
  clear hv
  have da : decide (n < 1) = false := df (by omega)
  have db : decide (1099511627776 < n) = false := df (by omega)
  have dc : decide (65536 < (b.length : Int)) = true := dt (by omega); have dcn : decide (65536 < b.length) = true := dt (by omega)
  clear h
  have hB1 := (Below.refl W.heap.size W).alloc (Nat.le_refl _) (.cells (RMV ⟨k, n, s, e, b⟩ A c) 97)
  have r1 := Row.born W 97 (RMV ⟨k, n, s, e, b⟩ A c)
  go_enter Try.func66, Try.ntmps66
  go_upto_region 1 with (fail)
  generalize W.alloc (.cells (RMV ⟨k, n, s, e, b⟩ A c) 97) = w1 at *
  have c0 : w1.cell? ⟨W.heap.size, 0, none⟩ = some (.int .i64 k) := r1.cell 0
  have c1 : w1.cell? ⟨W.heap.size, 1, none⟩ = some (.int .i64 n) := r1.cell 1
  have c2 : w1.cell? ⟨W.heap.size, 2, none⟩ = some (.int .i64 s) := r1.cell 2
  have c3 : w1.cell? ⟨W.heap.size, 3, none⟩ = some (.int .i64 e) := r1.cell 3
  have c4 : w1.cell? ⟨W.heap.size, 4, none⟩ = some (.slice A b.length c) := r1.cell 4
  clear r1
  go_wp2
  go_ret
  exact vrm_mk HV.out hB1
set_option maxRecDepth 100000 in
set_option maxHeartbeats 4000000 in
theorem vr_b3 (k n s e : Int) (b : List UInt8) (A : Option Addr) (c : Nat) (W : World) (h : 1 ≤ n ∧ n ≤ 1099511627776 ∧ b.length ≤ 65536 ∧ e ≠ 0 ∧ 0 < b.length) (hv : (RM.mk k n s e b).ok = false) : Calls Try.prog 66 #[.agg (RMV ⟨k, n, s, e, b⟩ A c)] W (VrmP ⟨k, n, s, e, b⟩ W) := by
  have HV := Lib.hid hv
  clear hv
  have da : decide (n < 1) = false := df (by omega)
  have db : decide (1099511627776 < n) = false := df (by omega)
  have dc : decide (65536 < (b.length : Int)) = false := df (by omega); have dcn : decide (65536 < b.length) = false := df (by omega)
  have dd : (e == 0) = false := ef (by omega)
  have dq : (e != 0) = true := nt (by omega)
  have dp : decide (0 < (b.length : Int)) = true := dt (by omega); have dpn : decide (0 < b.length) = true := dt (by omega)
  clear h
  have hB1 := (Below.refl W.heap.size W).alloc (Nat.le_refl _) (.cells (RMV ⟨k, n, s, e, b⟩ A c) 97)
  have r1 := Row.born W 97 (RMV ⟨k, n, s, e, b⟩ A c)
  go_enter Try.func66, Try.ntmps66
  go_upto_region 1 with (fail)
  generalize W.alloc (.cells (RMV ⟨k, n, s, e, b⟩ A c) 97) = w1 at *
  have c0 : w1.cell? ⟨W.heap.size, 0, none⟩ = some (.int .i64 k) := r1.cell 0
  have c1 : w1.cell? ⟨W.heap.size, 1, none⟩ = some (.int .i64 n) := r1.cell 1
  have c2 : w1.cell? ⟨W.heap.size, 2, none⟩ = some (.int .i64 s) := r1.cell 2
  have c3 : w1.cell? ⟨W.heap.size, 3, none⟩ = some (.int .i64 e) := r1.cell 3
  have c4 : w1.cell? ⟨W.heap.size, 4, none⟩ = some (.slice A b.length c) := r1.cell 4
  clear r1
  go_wp2
  go_ret
  exact vrm_mk HV.out hB1
set_option maxRecDepth 100000 in
set_option maxHeartbeats 4000000 in
theorem vr_b4 (k n s e : Int) (b : List UInt8) (A : Option Addr) (c : Nat) (W : World) (h : 1 ≤ n ∧ n ≤ 1099511627776 ∧ b.length ≤ 65536 ∧ e = 0 ∧ k = 1 ∧ s < 0) (hv : (RM.mk k n s e b).ok = false) : Calls Try.prog 66 #[.agg (RMV ⟨k, n, s, e, b⟩ A c)] W (VrmP ⟨k, n, s, e, b⟩ W) := by
  have HV := Lib.hid hv
  clear hv
  have da : decide (n < 1) = false := df (by omega)
  have db : decide (1099511627776 < n) = false := df (by omega)
  have dc : decide (65536 < (b.length : Int)) = false := df (by omega); have dcn : decide (65536 < b.length) = false := df (by omega)
  have dd : (e == 0) = true := et (by omega)
  have dq : (e != 0) = false := nf (by omega)
  have dg : (k == 1) = true := et (by omega)
  have di : decide (0 ≤ s) = false := df (by omega)
  clear h
  have hB1 := (Below.refl W.heap.size W).alloc (Nat.le_refl _) (.cells (RMV ⟨k, n, s, e, b⟩ A c) 97)
  have r1 := Row.born W 97 (RMV ⟨k, n, s, e, b⟩ A c)
  go_enter Try.func66, Try.ntmps66
  go_upto_region 1 with (fail)
  generalize W.alloc (.cells (RMV ⟨k, n, s, e, b⟩ A c) 97) = w1 at *
  have c0 : w1.cell? ⟨W.heap.size, 0, none⟩ = some (.int .i64 k) := r1.cell 0
  have c1 : w1.cell? ⟨W.heap.size, 1, none⟩ = some (.int .i64 n) := r1.cell 1
  have c2 : w1.cell? ⟨W.heap.size, 2, none⟩ = some (.int .i64 s) := r1.cell 2
  have c3 : w1.cell? ⟨W.heap.size, 3, none⟩ = some (.int .i64 e) := r1.cell 3
  have c4 : w1.cell? ⟨W.heap.size, 4, none⟩ = some (.slice A b.length c) := r1.cell 4
  clear r1
  go_wp2
  go_ret
  exact vrm_mk HV.out hB1
set_option maxRecDepth 100000 in
set_option maxHeartbeats 4000000 in
theorem vr_b5 (k n s e : Int) (b : List UInt8) (A : Option Addr) (c : Nat) (W : World) (h : 1 ≤ n ∧ n ≤ 1099511627776 ∧ b.length ≤ 65536 ∧ e = 0 ∧ k = 1 ∧ 0 ≤ s ∧ 65535 < s) (hv : (RM.mk k n s e b).ok = false) : Calls Try.prog 66 #[.agg (RMV ⟨k, n, s, e, b⟩ A c)] W (VrmP ⟨k, n, s, e, b⟩ W) := by
  have HV := Lib.hid hv
  clear hv
  have da : decide (n < 1) = false := df (by omega)
  have db : decide (1099511627776 < n) = false := df (by omega)
  have dc : decide (65536 < (b.length : Int)) = false := df (by omega); have dcn : decide (65536 < b.length) = false := df (by omega)
  have dd : (e == 0) = true := et (by omega)
  have dq : (e != 0) = false := nf (by omega)
  have dg : (k == 1) = true := et (by omega)
  have di : decide (0 ≤ s) = true := dt (by omega)
  have dj : decide (s ≤ 65535) = false := df (by omega)
  clear h
  have hB1 := (Below.refl W.heap.size W).alloc (Nat.le_refl _) (.cells (RMV ⟨k, n, s, e, b⟩ A c) 97)
  have r1 := Row.born W 97 (RMV ⟨k, n, s, e, b⟩ A c)
  go_enter Try.func66, Try.ntmps66
  go_upto_region 1 with (fail)
  generalize W.alloc (.cells (RMV ⟨k, n, s, e, b⟩ A c) 97) = w1 at *
  have c0 : w1.cell? ⟨W.heap.size, 0, none⟩ = some (.int .i64 k) := r1.cell 0
  have c1 : w1.cell? ⟨W.heap.size, 1, none⟩ = some (.int .i64 n) := r1.cell 1
  have c2 : w1.cell? ⟨W.heap.size, 2, none⟩ = some (.int .i64 s) := r1.cell 2
  have c3 : w1.cell? ⟨W.heap.size, 3, none⟩ = some (.int .i64 e) := r1.cell 3
  have c4 : w1.cell? ⟨W.heap.size, 4, none⟩ = some (.slice A b.length c) := r1.cell 4
  clear r1
  go_wp2
  go_ret
  exact vrm_mk HV.out hB1
set_option maxRecDepth 100000 in
set_option maxHeartbeats 4000000 in
theorem vr_b6 (k n s e : Int) (b : List UInt8) (A : Option Addr) (c : Nat) (W : World) (h : 1 ≤ n ∧ n ≤ 1099511627776 ∧ b.length ≤ 65536 ∧ e = 0 ∧ k ≠ 1 ∧ k ≠ 2) (hv : (RM.mk k n s e b).ok = false) : Calls Try.prog 66 #[.agg (RMV ⟨k, n, s, e, b⟩ A c)] W (VrmP ⟨k, n, s, e, b⟩ W) := by
  have HV := Lib.hid hv
  clear hv
  have da : decide (n < 1) = false := df (by omega)
  have db : decide (1099511627776 < n) = false := df (by omega)
  have dc : decide (65536 < (b.length : Int)) = false := df (by omega); have dcn : decide (65536 < b.length) = false := df (by omega)
  have dd : (e == 0) = true := et (by omega)
  have dq : (e != 0) = false := nf (by omega)
  have dg : (k == 1) = false := ef (by omega)
  have dh : (k == 2) = false := ef (by omega)
  clear h
  have hB1 := (Below.refl W.heap.size W).alloc (Nat.le_refl _) (.cells (RMV ⟨k, n, s, e, b⟩ A c) 97)
  have r1 := Row.born W 97 (RMV ⟨k, n, s, e, b⟩ A c)
  go_enter Try.func66, Try.ntmps66
  go_upto_region 1 with (fail)
  generalize W.alloc (.cells (RMV ⟨k, n, s, e, b⟩ A c) 97) = w1 at *
  have c0 : w1.cell? ⟨W.heap.size, 0, none⟩ = some (.int .i64 k) := r1.cell 0
  have c1 : w1.cell? ⟨W.heap.size, 1, none⟩ = some (.int .i64 n) := r1.cell 1
  have c2 : w1.cell? ⟨W.heap.size, 2, none⟩ = some (.int .i64 s) := r1.cell 2
  have c3 : w1.cell? ⟨W.heap.size, 3, none⟩ = some (.int .i64 e) := r1.cell 3
  have c4 : w1.cell? ⟨W.heap.size, 4, none⟩ = some (.slice A b.length c) := r1.cell 4
  clear r1
  go_wp2
  go_ret
  exact vrm_mk HV.out hB1
set_option maxRecDepth 100000 in
set_option maxHeartbeats 4000000 in
theorem vr_b7 (k n s e : Int) (b : List UInt8) (A : Option Addr) (c : Nat) (W : World) (h : 1 ≤ n ∧ n ≤ 1099511627776 ∧ b.length ≤ 65536 ∧ e = 0 ∧ k = 2 ∧ s ≠ 0) (hv : (RM.mk k n s e b).ok = false) : Calls Try.prog 66 #[.agg (RMV ⟨k, n, s, e, b⟩ A c)] W (VrmP ⟨k, n, s, e, b⟩ W) := by
  have HV := Lib.hid hv
  clear hv
  have da : decide (n < 1) = false := df (by omega)
  have db : decide (1099511627776 < n) = false := df (by omega)
  have dc : decide (65536 < (b.length : Int)) = false := df (by omega); have dcn : decide (65536 < b.length) = false := df (by omega)
  have dd : (e == 0) = true := et (by omega)
  have dq : (e != 0) = false := nf (by omega)
  have dg : (k == 1) = false := ef (by omega)
  have dh : (k == 2) = true := et (by omega)
  have di : (s == 0) = false := ef (by omega)
  clear h
  have hB1 := (Below.refl W.heap.size W).alloc (Nat.le_refl _) (.cells (RMV ⟨k, n, s, e, b⟩ A c) 97)
  have r1 := Row.born W 97 (RMV ⟨k, n, s, e, b⟩ A c)
  go_enter Try.func66, Try.ntmps66
  go_upto_region 1 with (fail)
  generalize W.alloc (.cells (RMV ⟨k, n, s, e, b⟩ A c) 97) = w1 at *
  have c0 : w1.cell? ⟨W.heap.size, 0, none⟩ = some (.int .i64 k) := r1.cell 0
  have c1 : w1.cell? ⟨W.heap.size, 1, none⟩ = some (.int .i64 n) := r1.cell 1
  have c2 : w1.cell? ⟨W.heap.size, 2, none⟩ = some (.int .i64 s) := r1.cell 2
  have c3 : w1.cell? ⟨W.heap.size, 3, none⟩ = some (.int .i64 e) := r1.cell 3
  have c4 : w1.cell? ⟨W.heap.size, 4, none⟩ = some (.slice A b.length c) := r1.cell 4
  clear r1
  go_wp2
  go_ret
  exact vrm_mk HV.out hB1
set_option maxRecDepth 100000 in
set_option maxHeartbeats 4000000 in
theorem vr_b8 (k n s e : Int) (b : List UInt8) (A : Option Addr) (c : Nat) (W : World) (h : 1 ≤ n ∧ n ≤ 1099511627776 ∧ b.length ≤ 65536 ∧ e ≠ 0 ∧ b.length = 0 ∧ k = 1 ∧ s < 0) (hv : (RM.mk k n s e b).ok = false) : Calls Try.prog 66 #[.agg (RMV ⟨k, n, s, e, b⟩ A c)] W (VrmP ⟨k, n, s, e, b⟩ W) := by
  have HV := Lib.hid hv
  clear hv
  have da : decide (n < 1) = false := df (by omega)
  have db : decide (1099511627776 < n) = false := df (by omega)
  have dc : decide (65536 < (b.length : Int)) = false := df (by omega); have dcn : decide (65536 < b.length) = false := df (by omega)
  have dd : (e == 0) = false := ef (by omega)
  have dq : (e != 0) = true := nt (by omega)
  have dp : decide (0 < (b.length : Int)) = false := df (by omega); have dpn : decide (0 < b.length) = false := df (by omega)
  have dg : (k == 1) = true := et (by omega)
  have di : decide (0 ≤ s) = false := df (by omega)
  clear h
  have hB1 := (Below.refl W.heap.size W).alloc (Nat.le_refl _) (.cells (RMV ⟨k, n, s, e, b⟩ A c) 97)
  have r1 := Row.born W 97 (RMV ⟨k, n, s, e, b⟩ A c)
  go_enter Try.func66, Try.ntmps66
  go_upto_region 1 with (fail)
  generalize W.alloc (.cells (RMV ⟨k, n, s, e, b⟩ A c) 97) = w1 at *
  have c0 : w1.cell? ⟨W.heap.size, 0, none⟩ = some (.int .i64 k) := r1.cell 0
  have c1 : w1.cell? ⟨W.heap.size, 1, none⟩ = some (.int .i64 n) := r1.cell 1
  have c2 : w1.cell? ⟨W.heap.size, 2, none⟩ = some (.int .i64 s) := r1.cell 2
  have c3 : w1.cell? ⟨W.heap.size, 3, none⟩ = some (.int .i64 e) := r1.cell 3
  have c4 : w1.cell? ⟨W.heap.size, 4, none⟩ = some (.slice A b.length c) := r1.cell 4
  clear r1
  go_wp2
  go_ret
  exact vrm_mk HV.out hB1
set_option maxRecDepth 100000 in
set_option maxHeartbeats 4000000 in
theorem vr_b9 (k n s e : Int) (b : List UInt8) (A : Option Addr) (c : Nat) (W : World) (h : 1 ≤ n ∧ n ≤ 1099511627776 ∧ b.length ≤ 65536 ∧ e ≠ 0 ∧ b.length = 0 ∧ k = 1 ∧ 0 ≤ s ∧ 65535 < s) (hv : (RM.mk k n s e b).ok = false) : Calls Try.prog 66 #[.agg (RMV ⟨k, n, s, e, b⟩ A c)] W (VrmP ⟨k, n, s, e, b⟩ W) := by
  have HV := Lib.hid hv
  clear hv
  have da : decide (n < 1) = false := df (by omega)
  have db : decide (1099511627776 < n) = false := df (by omega)
  have dc : decide (65536 < (b.length : Int)) = false := df (by omega); have dcn : decide (65536 < b.length) = false := df (by omega)
  have dd : (e == 0) = false := ef (by omega)
  have dq : (e != 0) = true := nt (by omega)
  have dp : decide (0 < (b.length : Int)) = false := df (by omega); have dpn : decide (0 < b.length) = false := df (by omega)
  have dg : (k == 1) = true := et (by omega)
  have di : decide (0 ≤ s) = true := dt (by omega)
  have dj : decide (s ≤ 65535) = false := df (by omega)
  clear h
  have hB1 := (Below.refl W.heap.size W).alloc (Nat.le_refl _) (.cells (RMV ⟨k, n, s, e, b⟩ A c) 97)
  have r1 := Row.born W 97 (RMV ⟨k, n, s, e, b⟩ A c)
  go_enter Try.func66, Try.ntmps66
  go_upto_region 1 with (fail)
  generalize W.alloc (.cells (RMV ⟨k, n, s, e, b⟩ A c) 97) = w1 at *
  have c0 : w1.cell? ⟨W.heap.size, 0, none⟩ = some (.int .i64 k) := r1.cell 0
  have c1 : w1.cell? ⟨W.heap.size, 1, none⟩ = some (.int .i64 n) := r1.cell 1
  have c2 : w1.cell? ⟨W.heap.size, 2, none⟩ = some (.int .i64 s) := r1.cell 2
  have c3 : w1.cell? ⟨W.heap.size, 3, none⟩ = some (.int .i64 e) := r1.cell 3
  have c4 : w1.cell? ⟨W.heap.size, 4, none⟩ = some (.slice A b.length c) := r1.cell 4
  clear r1
  go_wp2
  go_ret
  exact vrm_mk HV.out hB1
set_option maxRecDepth 100000 in
set_option maxHeartbeats 4000000 in
theorem vr_b10 (k n s e : Int) (b : List UInt8) (A : Option Addr) (c : Nat) (W : World) (h : 1 ≤ n ∧ n ≤ 1099511627776 ∧ b.length ≤ 65536 ∧ e ≠ 0 ∧ b.length = 0 ∧ k = 1 ∧ 0 ≤ s ∧ s ≤ 65535) (hv : (RM.mk k n s e b).ok = false) : Calls Try.prog 66 #[.agg (RMV ⟨k, n, s, e, b⟩ A c)] W (VrmP ⟨k, n, s, e, b⟩ W) := by
  have HV := Lib.hid hv
  clear hv
  have da : decide (n < 1) = false := df (by omega)
  have db : decide (1099511627776 < n) = false := df (by omega)
  have dc : decide (65536 < (b.length : Int)) = false := df (by omega); have dcn : decide (65536 < b.length) = false := df (by omega)
  have dd : (e == 0) = false := ef (by omega)
  have dq : (e != 0) = true := nt (by omega)
  have dp : decide (0 < (b.length : Int)) = false := df (by omega); have dpn : decide (0 < b.length) = false := df (by omega)
  have dg : (k == 1) = true := et (by omega)
  have di : decide (0 ≤ s) = true := dt (by omega)
  have dj : decide (s ≤ 65535) = true := dt (by omega)
  clear h
  have hB1 := (Below.refl W.heap.size W).alloc (Nat.le_refl _) (.cells (RMV ⟨k, n, s, e, b⟩ A c) 97)
  have r1 := Row.born W 97 (RMV ⟨k, n, s, e, b⟩ A c)
  go_enter Try.func66, Try.ntmps66
  go_upto_region 1 with (fail)
  generalize W.alloc (.cells (RMV ⟨k, n, s, e, b⟩ A c) 97) = w1 at *
  have c0 : w1.cell? ⟨W.heap.size, 0, none⟩ = some (.int .i64 k) := r1.cell 0
  have c1 : w1.cell? ⟨W.heap.size, 1, none⟩ = some (.int .i64 n) := r1.cell 1
  have c2 : w1.cell? ⟨W.heap.size, 2, none⟩ = some (.int .i64 s) := r1.cell 2
  have c3 : w1.cell? ⟨W.heap.size, 3, none⟩ = some (.int .i64 e) := r1.cell 3
  have c4 : w1.cell? ⟨W.heap.size, 4, none⟩ = some (.slice A b.length c) := r1.cell 4
  clear r1
  go_wp2
  go_ret
  exact vrm_mk HV.out hB1
set_option maxRecDepth 100000 in
set_option maxHeartbeats 4000000 in
theorem vr_b11 (k n s e : Int) (b : List UInt8) (A : Option Addr) (c : Nat) (W : World) (h : 1 ≤ n ∧ n ≤ 1099511627776 ∧ b.length ≤ 65536 ∧ e ≠ 0 ∧ b.length = 0 ∧ k ≠ 1 ∧ k ≠ 2) (hv : (RM.mk k n s e b).ok = false) : Calls Try.prog 66 #[.agg (RMV ⟨k, n, s, e, b⟩ A c)] W (VrmP ⟨k, n, s, e, b⟩ W) := by
  have HV := Lib.hid hv
  clear hv
  have da : decide (n < 1) = false := df (by omega)
  have db : decide (1099511627776 < n) = false := df (by omega)
  have dc : decide (65536 < (b.length : Int)) = false := df (by omega); have dcn : decide (65536 < b.length) = false := df (by omega)
  have dd : (e == 0) = false := ef (by omega)
  have dq : (e != 0) = true := nt (by omega)
  have dp : decide (0 < (b.length : Int)) = false := df (by omega); have dpn : decide (0 < b.length) = false := df (by omega)
  have dg : (k == 1) = false := ef (by omega)
  have dh : (k == 2) = false := ef (by omega)
  clear h
  have hB1 := (Below.refl W.heap.size W).alloc (Nat.le_refl _) (.cells (RMV ⟨k, n, s, e, b⟩ A c) 97)
  have r1 := Row.born W 97 (RMV ⟨k, n, s, e, b⟩ A c)
  go_enter Try.func66, Try.ntmps66
  go_upto_region 1 with (fail)
  generalize W.alloc (.cells (RMV ⟨k, n, s, e, b⟩ A c) 97) = w1 at *
  have c0 : w1.cell? ⟨W.heap.size, 0, none⟩ = some (.int .i64 k) := r1.cell 0
  have c1 : w1.cell? ⟨W.heap.size, 1, none⟩ = some (.int .i64 n) := r1.cell 1
  have c2 : w1.cell? ⟨W.heap.size, 2, none⟩ = some (.int .i64 s) := r1.cell 2
  have c3 : w1.cell? ⟨W.heap.size, 3, none⟩ = some (.int .i64 e) := r1.cell 3
  have c4 : w1.cell? ⟨W.heap.size, 4, none⟩ = some (.slice A b.length c) := r1.cell 4
  clear r1
  go_wp2
  go_ret
  exact vrm_mk HV.out hB1
set_option maxRecDepth 100000 in
set_option maxHeartbeats 4000000 in
theorem vr_b12 (k n s e : Int) (b : List UInt8) (A : Option Addr) (c : Nat) (W : World) (h : 1 ≤ n ∧ n ≤ 1099511627776 ∧ b.length ≤ 65536 ∧ e ≠ 0 ∧ b.length = 0 ∧ k = 2 ∧ s ≠ 0) (hv : (RM.mk k n s e b).ok = false) : Calls Try.prog 66 #[.agg (RMV ⟨k, n, s, e, b⟩ A c)] W (VrmP ⟨k, n, s, e, b⟩ W) := by
  have HV := Lib.hid hv
  clear hv
  have da : decide (n < 1) = false := df (by omega)
  have db : decide (1099511627776 < n) = false := df (by omega)
  have dc : decide (65536 < (b.length : Int)) = false := df (by omega); have dcn : decide (65536 < b.length) = false := df (by omega)
  have dd : (e == 0) = false := ef (by omega)
  have dq : (e != 0) = true := nt (by omega)
  have dp : decide (0 < (b.length : Int)) = false := df (by omega); have dpn : decide (0 < b.length) = false := df (by omega)
  have dg : (k == 1) = false := ef (by omega)
  have dh : (k == 2) = true := et (by omega)
  have di : (s == 0) = false := ef (by omega)
  clear h
  have hB1 := (Below.refl W.heap.size W).alloc (Nat.le_refl _) (.cells (RMV ⟨k, n, s, e, b⟩ A c) 97)
  have r1 := Row.born W 97 (RMV ⟨k, n, s, e, b⟩ A c)
  go_enter Try.func66, Try.ntmps66
  go_upto_region 1 with (fail)
  generalize W.alloc (.cells (RMV ⟨k, n, s, e, b⟩ A c) 97) = w1 at *
  have c0 : w1.cell? ⟨W.heap.size, 0, none⟩ = some (.int .i64 k) := r1.cell 0
  have c1 : w1.cell? ⟨W.heap.size, 1, none⟩ = some (.int .i64 n) := r1.cell 1
  have c2 : w1.cell? ⟨W.heap.size, 2, none⟩ = some (.int .i64 s) := r1.cell 2
  have c3 : w1.cell? ⟨W.heap.size, 3, none⟩ = some (.int .i64 e) := r1.cell 3
  have c4 : w1.cell? ⟨W.heap.size, 4, none⟩ = some (.slice A b.length c) := r1.cell 4
  clear r1
  go_wp2
  go_ret
  exact vrm_mk HV.out hB1
set_option maxRecDepth 100000 in
set_option maxHeartbeats 4000000 in
theorem vr_b13 (k n s e : Int) (b : List UInt8) (A : Option Addr) (c : Nat) (W : World) (h : 1 ≤ n ∧ n ≤ 1099511627776 ∧ b.length ≤ 65536 ∧ e ≠ 0 ∧ b.length = 0 ∧ k = 2 ∧ s = 0 ∧ e < 0) (hv : (RM.mk k n s e b).ok = false) : Calls Try.prog 66 #[.agg (RMV ⟨k, n, s, e, b⟩ A c)] W (VrmP ⟨k, n, s, e, b⟩ W) := by
  have HV := Lib.hid hv
  clear hv
  have da : decide (n < 1) = false := df (by omega)
  have db : decide (1099511627776 < n) = false := df (by omega)
  have dc : decide (65536 < (b.length : Int)) = false := df (by omega); have dcn : decide (65536 < b.length) = false := df (by omega)
  have dd : (e == 0) = false := ef (by omega)
  have dq : (e != 0) = true := nt (by omega)
  have dp : decide (0 < (b.length : Int)) = false := df (by omega); have dpn : decide (0 < b.length) = false := df (by omega)
  have dg : (k == 1) = false := ef (by omega)
  have dh : (k == 2) = true := et (by omega)
  have di : (s == 0) = true := et (by omega)
  have dj : decide (0 ≤ e) = false := df (by omega)
  clear h
  have hB1 := (Below.refl W.heap.size W).alloc (Nat.le_refl _) (.cells (RMV ⟨k, n, s, e, b⟩ A c) 97)
  have r1 := Row.born W 97 (RMV ⟨k, n, s, e, b⟩ A c)
  go_enter Try.func66, Try.ntmps66
  go_upto_region 1 with (fail)
  generalize W.alloc (.cells (RMV ⟨k, n, s, e, b⟩ A c) 97) = w1 at *
  have c0 : w1.cell? ⟨W.heap.size, 0, none⟩ = some (.int .i64 k) := r1.cell 0
  have c1 : w1.cell? ⟨W.heap.size, 1, none⟩ = some (.int .i64 n) := r1.cell 1
  have c2 : w1.cell? ⟨W.heap.size, 2, none⟩ = some (.int .i64 s) := r1.cell 2
  have c3 : w1.cell? ⟨W.heap.size, 3, none⟩ = some (.int .i64 e) := r1.cell 3
  have c4 : w1.cell? ⟨W.heap.size, 4, none⟩ = some (.slice A b.length c) := r1.cell 4
  clear r1
  go_wp2
  go_ret
  exact vrm_mk HV.out hB1
set_option maxRecDepth 100000 in
set_option maxHeartbeats 4000000 in
theorem vr_b14 (k n s e : Int) (b : List UInt8) (A : Option Addr) (c : Nat) (W : World) (h : 1 ≤ n ∧ n ≤ 1099511627776 ∧ b.length ≤ 65536 ∧ e ≠ 0 ∧ b.length = 0 ∧ k = 2 ∧ s = 0 ∧ 0 ≤ e ∧ 255 < e) (hv : (RM.mk k n s e b).ok = false) : Calls Try.prog 66 #[.agg (RMV ⟨k, n, s, e, b⟩ A c)] W (VrmP ⟨k, n, s, e, b⟩ W) := by
  have HV := Lib.hid hv
  clear hv
  have da : decide (n < 1) = false := df (by omega)
  have db : decide (1099511627776 < n) = false := df (by omega)
  have dc : decide (65536 < (b.length : Int)) = false := df (by omega); have dcn : decide (65536 < b.length) = false := df (by omega)
  have dd : (e == 0) = false := ef (by omega)
  have dq : (e != 0) = true := nt (by omega)
  have dp : decide (0 < (b.length : Int)) = false := df (by omega); have dpn : decide (0 < b.length) = false := df (by omega)
  have dg : (k == 1) = false := ef (by omega)
  have dh : (k == 2) = true := et (by omega)
  have di : (s == 0) = true := et (by omega)
  have dj : decide (0 ≤ e) = true := dt (by omega)
  have dl : decide (e ≤ 255) = false := df (by omega)
  clear h
  have hB1 := (Below.refl W.heap.size W).alloc (Nat.le_refl _) (.cells (RMV ⟨k, n, s, e, b⟩ A c) 97)
  have r1 := Row.born W 97 (RMV ⟨k, n, s, e, b⟩ A c)
  go_enter Try.func66, Try.ntmps66
  go_upto_region 1 with (fail)
  generalize W.alloc (.cells (RMV ⟨k, n, s, e, b⟩ A c) 97) = w1 at *
  have c0 : w1.cell? ⟨W.heap.size, 0, none⟩ = some (.int .i64 k) := r1.cell 0
  have c1 : w1.cell? ⟨W.heap.size, 1, none⟩ = some (.int .i64 n) := r1.cell 1
  have c2 : w1.cell? ⟨W.heap.size, 2, none⟩ = some (.int .i64 s) := r1.cell 2
  have c3 : w1.cell? ⟨W.heap.size, 3, none⟩ = some (.int .i64 e) := r1.cell 3
  have c4 : w1.cell? ⟨W.heap.size, 4, none⟩ = some (.slice A b.length c) := r1.cell 4
  clear r1
  go_wp2
  go_ret
  exact vrm_mk HV.out hB1
set_option maxRecDepth 100000 in
set_option maxHeartbeats 4000000 in
theorem vr_b15 (k n s e : Int) (b : List UInt8) (A : Option Addr) (c : Nat) (W : World) (h : 1 ≤ n ∧ n ≤ 1099511627776 ∧ b.length ≤ 65536 ∧ e = 0 ∧ k = 1 ∧ 0 ≤ s ∧ s ≤ 65535) (hv : (RM.mk k n s e b).ok = true) : Calls Try.prog 66 #[.agg (RMV ⟨k, n, s, e, b⟩ A c)] W (VrmP ⟨k, n, s, e, b⟩ W) := by
  have HV := Lib.hid hv
  clear hv
  have da : decide (n < 1) = false := df (by omega)
  have db : decide (1099511627776 < n) = false := df (by omega)
  have dc : decide (65536 < (b.length : Int)) = false := df (by omega); have dcn : decide (65536 < b.length) = false := df (by omega)
  have dd : (e == 0) = true := et (by omega)
  have dq : (e != 0) = false := nf (by omega)
  have dg : (k == 1) = true := et (by omega)
  have di : decide (0 ≤ s) = true := dt (by omega)
  have dj : decide (s ≤ 65535) = true := dt (by omega)
  clear h
  have hB1 := (Below.refl W.heap.size W).alloc (Nat.le_refl _) (.cells (RMV ⟨k, n, s, e, b⟩ A c) 97)
  have r1 := Row.born W 97 (RMV ⟨k, n, s, e, b⟩ A c)
  go_enter Try.func66, Try.ntmps66
  go_upto_region 1 with (fail)
  generalize W.alloc (.cells (RMV ⟨k, n, s, e, b⟩ A c) 97) = w1 at *
  have c0 : w1.cell? ⟨W.heap.size, 0, none⟩ = some (.int .i64 k) := r1.cell 0
  have c1 : w1.cell? ⟨W.heap.size, 1, none⟩ = some (.int .i64 n) := r1.cell 1
  have c2 : w1.cell? ⟨W.heap.size, 2, none⟩ = some (.int .i64 s) := r1.cell 2
  have c3 : w1.cell? ⟨W.heap.size, 3, none⟩ = some (.int .i64 e) := r1.cell 3
  have c4 : w1.cell? ⟨W.heap.size, 4, none⟩ = some (.slice A b.length c) := r1.cell 4
  clear r1
  go_wp2
  go_ret
  exact vrm_mk HV.out hB1
set_option maxRecDepth 100000 in
set_option maxHeartbeats 4000000 in
theorem vr_b16 (k n s e : Int) (b : List UInt8) (A : Option Addr) (c : Nat) (W : World) (h : 1 ≤ n ∧ n ≤ 1099511627776 ∧ b.length ≤ 65536 ∧ e = 0 ∧ k = 2 ∧ s = 0) (hv : (RM.mk k n s e b).ok = true) : Calls Try.prog 66 #[.agg (RMV ⟨k, n, s, e, b⟩ A c)] W (VrmP ⟨k, n, s, e, b⟩ W) := by
  have HV := Lib.hid hv
  clear hv
  have da : decide (n < 1) = false := df (by omega)
  have db : decide (1099511627776 < n) = false := df (by omega)
  have dc : decide (65536 < (b.length : Int)) = false := df (by omega); have dcn : decide (65536 < b.length) = false := df (by omega)
  have dd : (e == 0) = true := et (by omega)
  have dq : (e != 0) = false := nf (by omega)
  have dg : (k == 1) = false := ef (by omega)
  have dh : (k == 2) = true := et (by omega)
  have di : (s == 0) = true := et (by omega)
  have dj : decide (0 ≤ e) = true := dt (by omega)
  have dl : decide (e ≤ 255) = true := dt (by omega)
  clear h
  have hB1 := (Below.refl W.heap.size W).alloc (Nat.le_refl _) (.cells (RMV ⟨k, n, s, e, b⟩ A c) 97)
  have r1 := Row.born W 97 (RMV ⟨k, n, s, e, b⟩ A c)
  go_enter Try.func66, Try.ntmps66
  go_upto_region 1 with (fail)
  generalize W.alloc (.cells (RMV ⟨k, n, s, e, b⟩ A c) 97) = w1 at *
  have c0 : w1.cell? ⟨W.heap.size, 0, none⟩ = some (.int .i64 k) := r1.cell 0
  have c1 : w1.cell? ⟨W.heap.size, 1, none⟩ = some (.int .i64 n) := r1.cell 1
  have c2 : w1.cell? ⟨W.heap.size, 2, none⟩ = some (.int .i64 s) := r1.cell 2
  have c3 : w1.cell? ⟨W.heap.size, 3, none⟩ = some (.int .i64 e) := r1.cell 3
  have c4 : w1.cell? ⟨W.heap.size, 4, none⟩ = some (.slice A b.length c) := r1.cell 4
  clear r1
  go_wp2
  go_ret
  exact vrm_mk HV.out hB1
set_option maxRecDepth 100000 in
set_option maxHeartbeats 4000000 in
theorem vr_b17 (k n s e : Int) (b : List UInt8) (A : Option Addr) (c : Nat) (W : World) (h : 1 ≤ n ∧ n ≤ 1099511627776 ∧ b.length ≤ 65536 ∧ e ≠ 0 ∧ b.length = 0 ∧ k = 2 ∧ s = 0 ∧ 0 ≤ e ∧ e ≤ 255) (hv : (RM.mk k n s e b).ok = true) : Calls Try.prog 66 #[.agg (RMV ⟨k, n, s, e, b⟩ A c)] W (VrmP ⟨k, n, s, e, b⟩ W) := by
  have HV := Lib.hid hv
  clear hv
  have da : decide (n < 1) = false := df (by omega)
  have db : decide (1099511627776 < n) = false := df (by omega)
  have dc : decide (65536 < (b.length : Int)) = false := df (by omega); have dcn : decide (65536 < b.length) = false := df (by omega)
  have dd : (e == 0) = false := ef (by omega)
  have dq : (e != 0) = true := nt (by omega)
  have dp : decide (0 < (b.length : Int)) = false := df (by omega); have dpn : decide (0 < b.length) = false := df (by omega)
  have dg : (k == 1) = false := ef (by omega)
  have dh : (k == 2) = true := et (by omega)
  have di : (s == 0) = true := et (by omega)
  have dj : decide (0 ≤ e) = true := dt (by omega)
  have dl : decide (e ≤ 255) = true := dt (by omega)
  clear h
  have hB1 := (Below.refl W.heap.size W).alloc (Nat.le_refl _) (.cells (RMV ⟨k, n, s, e, b⟩ A c) 97)
  have r1 := Row.born W 97 (RMV ⟨k, n, s, e, b⟩ A c)
  go_enter Try.func66, Try.ntmps66
  go_upto_region 1 with (fail)
  generalize W.alloc (.cells (RMV ⟨k, n, s, e, b⟩ A c) 97) = w1 at *
  have c0 : w1.cell? ⟨W.heap.size, 0, none⟩ = some (.int .i64 k) := r1.cell 0
  have c1 : w1.cell? ⟨W.heap.size, 1, none⟩ = some (.int .i64 n) := r1.cell 1
  have c2 : w1.cell? ⟨W.heap.size, 2, none⟩ = some (.int .i64 s) := r1.cell 2
  have c3 : w1.cell? ⟨W.heap.size, 3, none⟩ = some (.int .i64 e) := r1.cell 3
  have c4 : w1.cell? ⟨W.heap.size, 4, none⟩ = some (.slice A b.length c) := r1.cell 4
  clear r1
  go_wp2
  go_ret
  exact vrm_mk HV.out hB1
theorem valid_rm (m : RM) (A : Option Addr) (c : Nat) (W : World) : Calls Try.prog 66 #[.agg (RMV m A c)] W (VrmP m W) := by
  obtain ⟨k, n, s, e, b⟩ := m
  by_cases hv : (RM.mk k n s e b).Ok
  · have ho := RM.ok_iff.2 hv
    have hx : (1 ≤ n ∧ n ≤ 1099511627776 ∧ b.length ≤ 65536 ∧ e = 0 ∧ k = 1 ∧ 0 ≤ s ∧ s ≤ 65535) ∨ (1 ≤ n ∧ n ≤ 1099511627776 ∧ b.length ≤ 65536 ∧ e = 0 ∧ k = 2 ∧ s = 0) ∨ (1 ≤ n ∧ n ≤ 1099511627776 ∧ b.length ≤ 65536 ∧ e ≠ 0 ∧ b.length = 0 ∧ k = 2 ∧ s = 0 ∧ 0 ≤ e ∧ e ≤ 255) := by
      obtain ⟨h1, h2, h3, h4⟩ := hv
      simp only at h1 h2 h3 h4
      omega
    clear hv
    rcases hx with h | h | h
    · exact vr_b15 k n s e b A c W h ho
    · exact vr_b16 k n s e b A c W h ho
    · exact vr_b17 k n s e b A c W h ho
  · have ho := ok_false hv
    have hw : ¬ (1 ≤ n ∧ n ≤ 1099511627776 ∧ b.length ≤ 65536 ∧ ((k = 1 ∧ 0 ≤ s ∧ s ≤ 65535 ∧ e = 0) ∨ (k = 2 ∧ s = 0 ∧ 0 ≤ e ∧ e ≤ 255 ∧ (e = 0 ∨ b.length = 0)))) := fun ⟨a1, a2, a3, a4⟩ => hv ⟨a1, a2, a3, a4⟩
    clear hv
    rcases Int.lt_or_le n 1 with a1 | a1
    · exact vr_b0 k n s e b A c W a1 ho
    rcases Int.lt_or_le 1099511627776 n with a2 | a2
    · exact vr_b1 k n s e b A c W ⟨a1, a2⟩ ho
    rcases Nat.lt_or_ge 65536 b.length with a3 | a3
    · exact vr_b2 k n s e b A c W ⟨a1, a2, a3⟩ ho
    by_cases a4 : e = 0
    · by_cases a5 : k = 1
      · rcases Int.lt_or_le s 0 with a6 | a6
        · exact vr_b4 k n s e b A c W ⟨a1, a2, a3, a4, a5, a6⟩ ho
        · rcases Int.lt_or_le 65535 s with a7 | a7
          · exact vr_b5 k n s e b A c W ⟨a1, a2, a3, a4, a5, a6, a7⟩ ho
          · exact absurd ⟨a1, a2, a3, .inl ⟨a5, a6, a7, a4⟩⟩ hw
      · by_cases a6 : k = 2
        · by_cases a7 : s = 0
          · exact absurd ⟨a1, a2, a3, .inr ⟨a6, a7, by omega, by omega, .inl a4⟩⟩ hw
          · exact vr_b7 k n s e b A c W ⟨a1, a2, a3, a4, a6, a7⟩ ho
        · exact vr_b6 k n s e b A c W ⟨a1, a2, a3, a4, a5, a6⟩ ho
    · rcases Nat.eq_zero_or_pos b.length with a5 | a5
      · by_cases a6 : k = 1
        · rcases Int.lt_or_le s 0 with a7 | a7
          · exact vr_b8 k n s e b A c W ⟨a1, a2, a3, a4, a5, a6, a7⟩ ho
          · rcases Int.lt_or_le 65535 s with a8 | a8
            · exact vr_b9 k n s e b A c W ⟨a1, a2, a3, a4, a5, a6, a7, a8⟩ ho
            · exact vr_b10 k n s e b A c W ⟨a1, a2, a3, a4, a5, a6, a7, a8⟩ ho
        · by_cases a7 : k = 2
          · by_cases a8 : s = 0
            · rcases Int.lt_or_le e 0 with a9 | a9
              · exact vr_b13 k n s e b A c W ⟨a1, a2, a3, a4, a5, a7, a8, a9⟩ ho
              · rcases Int.lt_or_le 255 e with b1 | b1
                · exact vr_b14 k n s e b A c W ⟨a1, a2, a3, a4, a5, a7, a8, a9, b1⟩ ho
                · exact absurd ⟨a1, a2, a3, .inr ⟨a7, a8, a9, b1, .inr a5⟩⟩ hw
            · exact vr_b12 k n s e b A c W ⟨a1, a2, a3, a4, a5, a7, a8⟩ ho
          · exact vr_b11 k n s e b A c W ⟨a1, a2, a3, a4, a5, a6, a7⟩ ho
      · exact vr_b3 k n s e b A c W ⟨a1, a2, a3, a4, a5⟩ ho
set_option maxRecDepth 100000 in
set_option maxHeartbeats 4000000 in
theorem same_rm (m : RM) (A A' : Option Addr) (c c' : Nat) (W : World) (hA : IsB W A m.b.length m.b) (hA' : IsB W A' m.b.length m.b) : Calls Try.prog 65 #[.agg (RMV m A c), .agg (RMV m A' c')] W (fun en W' => en = .returned (.bool true) ∧ Below W.heap.size W W') := by
  have hB1 := ((Below.refl W.heap.size W).alloc (Nat.le_refl _) (.cells (RMV m A c) 97)).alloc (by simp) (.cells (RMV m A' c') 97)
  have r1 := (Row.born W 97 (RMV m A c)).alloc (.cells (RMV m A' c') 97)
  have r2 : Row ((W.alloc (.cells (RMV m A c) 97)).alloc (.cells (RMV m A' c') 97)) (W.heap.size + 1) 97 (RMV m A' c') := by
    have h := Row.born (W.alloc (.cells (RMV m A c) 97)) 97 (RMV m A' c')
    have e1 : (W.alloc (.cells (RMV m A c) 97)).heap.size = W.heap.size + 1 := by simp
    rwa [e1] at h
  have hA1 := hA.below hB1
  have hA2 := hA'.below hB1
  obtain ⟨k, n, s, e, b⟩ := m
  go_enter Try.func65, Try.ntmps65
  go_upto_region 1 with (fail)
  generalize (W.alloc (.cells (RMV ⟨k, n, s, e, b⟩ A c) 97)).alloc (.cells (RMV ⟨k, n, s, e, b⟩ A' c') 97) = w1 at *
  have c0 : w1.cell? ⟨W.heap.size, 0, none⟩ = some (.int .i64 k) := r1.cell 0
  have d0 : w1.cell? ⟨W.heap.size + 1, 0, none⟩ = some (.int .i64 k) := r2.cell 0
  have c1 : w1.cell? ⟨W.heap.size, 1, none⟩ = some (.int .i64 n) := r1.cell 1
  have d1 : w1.cell? ⟨W.heap.size + 1, 1, none⟩ = some (.int .i64 n) := r2.cell 1
  have c2 : w1.cell? ⟨W.heap.size, 2, none⟩ = some (.int .i64 s) := r1.cell 2
  have d2 : w1.cell? ⟨W.heap.size + 1, 2, none⟩ = some (.int .i64 s) := r2.cell 2
  have c3 : w1.cell? ⟨W.heap.size, 3, none⟩ = some (.int .i64 e) := r1.cell 3
  have d3 : w1.cell? ⟨W.heap.size + 1, 3, none⟩ = some (.int .i64 e) := r2.cell 3
  have c4 : w1.cell? ⟨W.heap.size, 4, none⟩ = some (.slice A b.length c) := r1.cell 4
  have d4 : w1.cell? ⟨W.heap.size + 1, 4, none⟩ = some (.slice A' b.length c') := r2.cell 4
  have hs1 := run_str (P := Try.prog) (w := w1) (dst := 9) Try.underlying44 Try.underlying5 Try.underlying9 c hA1
  have hs2 := run_str (P := Try.prog) (w := w1) (dst := 9) Try.underlying44 Try.underlying5 Try.underlying9 c' hA2
  clear r1 r2 hA1 hA2 hA hA'
  go_wp2
  go_ret
  exact ⟨rfl, hB1⟩
end Go.Proofs.Ythjkhambmgepdaa
