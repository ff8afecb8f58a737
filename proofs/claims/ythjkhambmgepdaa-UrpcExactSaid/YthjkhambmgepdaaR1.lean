/- Contracts of the small functions of package ring (validLines, validSender, epoch, Free, Acknowledge, NewSender, NewReceiver, AckCount). -/
import Derived.Test.YthjkhambmgepdaaRows
import Derived.Test.YthjkhambmgepdaaBits
import Derived.Test.YthjkhambmgepdaaMem
import Derived.Test.YthjkhambmgepdaaPlain
import Derived.WalkSpells
import Derived.WalkLawsBesides
import Derived.Deep.QuietTactic
import Derived.BigQuiet
import Derived.Lib.Hide
import Derived.Handy
namespace Go.Proofs.Ythjkhambmgepdaa
open Go.RowKit
set_option linter.unusedVariables false
theorem ret_int {k : IntKind} {a b : Int} (h : a = b) : Ending.returned (.int k a) = .returned (.int k b) := by rw [h]
theorem ret_bool {a b : Bool} (h : a = b) : Ending.returned (.bool a) = .returned (.bool b) := by rw [h]
def True1 (W : World) (e : Ending) (W' : World) : Prop := e = .returned (.bool true) ∧ Below W.heap.size W W'
def vl (n : Int) : Bool := n == 2 || n == 4 || n == 8 || n == 16 || n == 32 || n == 64
theorem pow2_dec : ∀ m : Fin 65, 2 ≤ m.val → (m.val &&& (m.val - 1) == 0) = (m.val == 2 || m.val == 4 || m.val == 8 || m.val == 16 || m.val == 32 || m.val == 64) := by decide
theorem vl_and {n : Int} (h0 : 2 ≤ n) (h1 : n ≤ 64) : (bits .and .i64 n (n - 1) == 0) = vl n := by
  obtain ⟨m, rfl⟩ := Int.eq_ofNat_of_zero_le (show 0 ≤ n by omega)
  have e : ((m : Int) - 1) = ((m - 1 : Nat) : Int) := by omega
  rw [e, i64_and_nat m (m - 1) (by omega) (by omega)]
  have h := pow2_dec ⟨m, by omega⟩ (by simp; omega)
  simp only at h
  rw [Bool.eq_iff_iff] at h ⊢
  simp [vl] at h ⊢
  omega
theorem vl_range {n : Int} (h : vl n = true) : 2 ≤ n ∧ n ≤ 64 := by simp [vl] at h; omega
theorem vl_out {n : Int} (h : n < 2 ∨ 64 < n) : vl n = false := by simp [vl]; omega
theorem valid_lines (n : Int) (W : World) : Calls Try.prog 91 #[.int .i64 n] W fun e W' => e = .returned (.bool (vl n)) ∧ W = W' := by
  rcases (by omega : n < 2 ∨ 64 < n ∨ (2 ≤ n ∧ n ≤ 64)) with h | h | ⟨h1, h2⟩
  · go_enter Try.func91, Try.ntmps91
    go_wp2
    go_ret
    exact ⟨ret_bool (by rw [vl_out (by omega)]), rfl⟩
  · go_enter Try.func91, Try.ntmps91
    go_wp2
    go_ret
    exact ⟨ret_bool (by rw [vl_out (by omega)]), rfl⟩
  · go_enter Try.func91, Try.ntmps91
    go_wp2
    go_ret
    exact ⟨ret_bool (vl_and h1 h2), rfl⟩
def vs (n s a : Int) : Bool := vl n && decide (a ≤ s) && decide (s - a ≤ n) && decide (s ≤ 4611686018427387904)
structure Vs (n s a : Int) : Prop where
  vl : vl n = true
  n0 : 2 ≤ n
  n1 : n ≤ 64
  a0 : a ≤ s
  d : s - a ≤ n
  m : s ≤ 4611686018427387904
theorem vs_yes {n s a : Int} (h : vs n s a = true) : Vs n s a := by
  simp only [vs, Bool.and_eq_true, decide_eq_true_eq] at h
  obtain ⟨⟨⟨h1, h2⟩, h3⟩, h4⟩ := h
  exact ⟨h1, (vl_range h1).1, (vl_range h1).2, h2, h3, h4⟩
theorem vs_mk {n s a : Int} (h : Vs n s a) : vs n s a = true := by simp [vs, h.vl, h.a0, h.d, h.m]
def VsPost (n s a : Int) (W : World) (e : Ending) (W' : World) : Prop := e = .returned (.bool (vs n s a)) ∧ Below W.heap.size W W'
theorem valid_sender (n s a : Int) (hs : 0 ≤ s) (hs1 : s < 18446744073709551616) (ha : 0 ≤ a) (W : World) : Calls Try.prog 88 #[.agg #[.int .i64 n, .int .u64 s, .int .u64 a]] W (VsPost n s a W) := by
  cases hn : vl n
  · go_enter Try.func88, Try.ntmps88
    go_wp2_with (go_at_call 91; refine (valid_lines _ _).mono ?_; rintro e w' ⟨rfl, rfl⟩)
    go_ret
    exact ⟨ret_bool (by simp [vs, hn]), (Below.refl _ _).alloc (Nat.le_refl _) _⟩
  · obtain ⟨n0, n1⟩ := vl_range hn
    rcases (by omega : a ≤ s ∨ s < a) with h1 | h1
    · rcases (by omega : s - a ≤ n ∨ n < s - a) with h2 | h2
      · go_enter Try.func88, Try.ntmps88
        go_wp2_with (go_at_call 91; refine (valid_lines _ _).mono ?_; rintro e w' ⟨rfl, rfl⟩)
        go_ret
        exact ⟨ret_bool (by simp [vs, hn, h1, h2]), (Below.refl _ _).alloc (Nat.le_refl _) _⟩
      · go_enter Try.func88, Try.ntmps88
        go_wp2_with (go_at_call 91; refine (valid_lines _ _).mono ?_; rintro e w' ⟨rfl, rfl⟩)
        go_ret
        exact ⟨ret_bool (by simp [vs, hn]; omega), (Below.refl _ _).alloc (Nat.le_refl _) _⟩
    · go_enter Try.func88, Try.ntmps88
      go_wp2_with (go_at_call 91; refine (valid_lines _ _).mono ?_; rintro e w' ⟨rfl, rfl⟩)
      go_ret
      exact ⟨ret_bool (by simp [vs, hn]; omega), (Below.refl _ _).alloc (Nat.le_refl _) _⟩
theorem three_cells {w : World} {g : Nat} {t : TypeId} {a b c : Value} (h : Row w g t #[a, b, c]) :
    (w.cell? ⟨g, 0, none⟩ = some a ∧ w.cell? ⟨g, 1, none⟩ = some b ∧ w.cell? ⟨g, 2, none⟩ = some c) ∧ ∀ i, w.frozen? ⟨g, i, none⟩ = false :=
  ⟨⟨h.cell 0, h.cell 1, h.cell 2⟩, h.frozen⟩
def ep (n x : Int) : Bool := x / n % 2 == 0
theorem epoch (x n : Int) (h0 : 0 ≤ x) (h1 : x < 18446744073709551616) (n0 : 2 ≤ n) (n1 : n ≤ 64) (W : World) : Calls Try.prog 89 #[.int .u64 x, .int .i64 n] W fun e W' => e = .returned (.bool (ep n x)) ∧ W = W' := by
  have hq : 0 ≤ x / n := Int.ediv_nonneg h0 (by omega)
  go_enter Try.func89, Try.ntmps89
  go_wp2
  go_ret
  exact ⟨rfl, rfl⟩
def fr (n s a : Int) : Int := if vs n s a then n - (s - a) else 0
def FrPost (n s a : Int) (W : World) (e : Ending) (W' : World) : Prop := e = .returned (.int .i64 (fr n s a)) ∧ Below W.heap.size W W'
theorem free (n s a : Int) (hs : 0 ≤ s) (hs1 : s < 18446744073709551616) (ha : 0 ≤ a) (W : World) : Calls Try.prog 22 #[.agg #[.int .i64 n, .int .u64 s, .int .u64 a]] W (FrPost n s a W) := by
  cases hv : vs n s a
  · go_enter Try.func22, Try.ntmps22
    go_wp2_with (go_at_call 88; refine (valid_sender _ _ _ hs hs1 ha _).mono ?_; rintro e w' ⟨rfl, hb⟩)
    go_ret
    exact ⟨ret_int (by simp [fr, hv]), (one_new hb).2.2⟩
  · obtain ⟨_, n0, n1, h1, h2, h3⟩ := vs_yes hv
    go_enter Try.func22, Try.ntmps22
    go_wp2_with fail
    refine (valid_sender _ _ _ hs hs1 ha _).mono ?_
    rintro e w' ⟨rfl, hb⟩
    obtain ⟨r1, hz, hB⟩ := one_new hb
    obtain ⟨⟨c0, c1, c2⟩, f1⟩ := three_cells r1
    clear r1 hb
    go_wp2
    go_ret
    exact ⟨ret_int (by simp [fr, hv]), hB⟩
def mv (k a : Int) : Int := (k - a) % 65536
theorem mv_wrap (k a : Int) : IntKind.u64.wrap (IntKind.u16.wrap (k - IntKind.u16.wrap a)) = mv k a := by simp only [mv, IntKind.wrap_u64, IntKind.wrap_u16]; omega
def akOk (n s a k : Int) : Bool := vs n s a && decide (mv k a ≤ s - a)
def akE (n s a k : Int) : Int := if vs n s a then (if mv k a ≤ s - a then 0 else 66) else 74
def akN (n s a k : Int) : Int := if akOk n s a k then n else 0
def akS (n s a k : Int) : Int := if akOk n s a k then s else 0
def akA (n s a k : Int) : Int := if akOk n s a k then a + mv k a else 0
def AkPost (n s a k : Int) (W : World) (e : Ending) (W' : World) : Prop :=
  e = .returned (.tuple #[.agg #[.int .i64 (akN n s a k), .int .u64 (akS n s a k), .int .u64 (akA n s a k)], .int .i64 (akE n s a k)]) ∧ Below W.heap.size W W'
theorem ak_ret {n s a k x y z d : Int} {W W' : World} (hx : x = akN n s a k) (hy : y = akS n s a k) (hz : z = akA n s a k) (hd : d = akE n s a k) (hb : Below W.heap.size W W') :
    AkPost n s a k W (.returned (.tuple #[.agg #[.int .i64 x, .int .u64 y, .int .u64 z], .int .i64 d])) W' := ⟨by rw [hx, hy, hz, hd], hb⟩
set_option maxHeartbeats 1000000 in
theorem acknowledge (n s a k : Int) (hs : 0 ≤ s) (hs1 : s < 18446744073709551616) (ha : 0 ≤ a) (k0 : 0 ≤ k) (k1 : k < 65536) (W : World) :
    Calls Try.prog 21 #[.agg #[.int .i64 n, .int .u64 s, .int .u64 a], .int .u16 k] W (AkPost n s a k W) := by
  cases hv : vs n s a
  · go_enter Try.func21, Try.ntmps21
    go_wp2_with fail
    refine (valid_sender _ _ _ hs hs1 ha _).mono ?_
    rintro e w' ⟨rfl, hb⟩
    obtain ⟨r1, r2, hz, hB⟩ := two_new hb
    obtain ⟨⟨c0, c1, c2⟩, f1⟩ := three_cells r1
    obtain ⟨⟨d0, d1, d2⟩, f2⟩ := three_cells r2
    clear r1 r2 hb
    go_wp2
    refine bodyPost_ret (v := .tuple #[.agg #[.int .i64 0, .int .u64 0, .int .u64 0], .int .i64 74]) (by simp [results, Try.results21, go_sem, d0, d1, d2]) rfl ?_
    refine ak_ret (by simp [akN, akOk, hv]) (by simp [akS, akOk, hv]) (by simp [akA, akOk, hv]) (by simp [akE, hv]) ?_
    exact ((hB.setCell (by simp) _).setCell (by simp) _).setCell (by simp) _
  · obtain ⟨_, n0, n1, h1, h2, h3⟩ := vs_yes hv
    have hm := mv_wrap k a
    have m0 : 0 ≤ mv k a := by unfold mv; omega
    have m1 : mv k a < 65536 := by unfold mv; omega
    rcases (by omega : mv k a ≤ s - a ∨ s - a < mv k a) with h4 | h4
    · have H := Lib.hid (show akOk n s a k = true by simp [akOk, hv, h4])
      have H2 := Lib.hid (show akE n s a k = 0 by simp [akE, hv, h4])
      go_enter Try.func21, Try.ntmps21
      go_wp2_with fail
      refine (valid_sender _ _ _ hs hs1 ha _).mono ?_
      rintro e w' ⟨rfl, hb⟩
      obtain ⟨r1, r2, hz, hB⟩ := two_new hb
      obtain ⟨⟨c0, c1, c2⟩, f1⟩ := three_cells r1
      obtain ⟨⟨d0, d1, d2⟩, f2⟩ := three_cells r2
      clear r1 r2 hb
      go_wp2
      refine bodyPost_ret (v := .tuple #[.agg #[.int .i64 n, .int .u64 s, .int .u64 (a + mv k a)], .int .i64 0]) (by simp [results, Try.results21, go_sem, d0, d1, d2]) rfl ?_
      refine ak_ret (by simp [akN, H.out]) (by simp [akS, H.out]) (by simp [akA, H.out]) (by rw [H2.out]) ?_
      exact (((hB.setCell (by simp) _).setCell (by simp) _).setCell (by simp) _).setCell (by simp) _
    · have H := Lib.hid (show akOk n s a k = false by simp [akOk, hv]; omega)
      have H2 := Lib.hid (show akE n s a k = 66 by simp [akE, hv]; omega)
      go_enter Try.func21, Try.ntmps21
      go_wp2_with fail
      refine (valid_sender _ _ _ hs hs1 ha _).mono ?_
      rintro e w' ⟨rfl, hb⟩
      obtain ⟨r1, r2, hz, hB⟩ := two_new hb
      obtain ⟨⟨c0, c1, c2⟩, f1⟩ := three_cells r1
      obtain ⟨⟨d0, d1, d2⟩, f2⟩ := three_cells r2
      clear r1 r2 hb
      go_wp2
      refine bodyPost_ret (v := .tuple #[.agg #[.int .i64 0, .int .u64 0, .int .u64 0], .int .i64 66]) (by simp [results, Try.results21, go_sem, d0, d1, d2]) rfl ?_
      refine ak_ret (by simp [akN, H.out]) (by simp [akS, H.out]) (by simp [akA, H.out]) (by rw [H2.out]) ?_
      exact ((hB.setCell (by simp) _).setCell (by simp) _).setCell (by simp) _
def nsE (n : Int) : Int := if vl n then 0 else 6
def nsN (n : Int) : Int := if vl n then n else 0
def NsPost (n : Int) (W : World) (e : Ending) (W' : World) : Prop :=
  e = .returned (.tuple #[.agg #[.int .i64 (nsN n), .int .u64 0, .int .u64 0], .int .i64 (nsE n)]) ∧ Below W.heap.size W W'
theorem new_sender (n : Int) (W : World) : Calls Try.prog 27 #[.int .i64 n] W (NsPost n W) := by
  cases hn : vl n
  · go_enter Try.func27, Try.ntmps27
    go_wp2_with (go_at_call 91; refine (valid_lines _ _).mono ?_; rintro e w' ⟨rfl, rfl⟩)
    refine bodyPost_ret (v := .tuple #[.agg #[.int .i64 0, .int .u64 0, .int .u64 0], .int .i64 6]) (by simp [results, Try.results27, go_sem]) rfl ⟨by simp [nsE, nsN, hn], ?_⟩
    go_grown
  · go_enter Try.func27, Try.ntmps27
    go_wp2_with (go_at_call 91; refine (valid_lines _ _).mono ?_; rintro e w' ⟨rfl, rfl⟩)
    refine bodyPost_ret (v := .tuple #[.agg #[.int .i64 n, .int .u64 0, .int .u64 0], .int .i64 0]) (by simp [results, Try.results27, go_sem]) rfl ⟨by simp [nsE, nsN, hn], ?_⟩
    go_grown
end Go.Proofs.Ythjkhambmgepdaa
