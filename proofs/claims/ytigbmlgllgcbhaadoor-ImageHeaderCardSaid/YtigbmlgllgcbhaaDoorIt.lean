/- Image: Numbers.Next. -/
import Derived.Test.YtigbmlgllgcbhaaDoorIn
import Derived.Test.YtigbmlgllgcbhaaDoorPlain
import Derived.Test.YtigbmlgllgcbhaaDoorIa
import Derived.Test.YtigbmlgllgcbhaaDoorRow
import Derived.Lib.Hide
import Derived.Deep.RegionHeld3
namespace Go.Proofs.YtigbmlgllgcbhaaDoor
open Go.RowKit
set_option linter.unusedVariables false
set_option linter.unusedSimpArgs false
theorem place (v n : Int) (h1 : 1 ≤ n) (h2 : n ≤ 4611686018427387904) (W : World) : Calls Tryd.prog 15 #[.int .i64 v, .int .i64 n] W fun e W' => e = .returned (.int .i64 (v % n)) ∧ W = W' := by
  obtain ⟨t1, t2⟩ := tmod_bd v n h1
  go_enter Tryd.func15, Tryd.ntmps15
  go_wp2
  · go_ret
    exact ⟨ret_int (tmod_neg h1 (by assumption)), rfl⟩
  · go_ret
    exact ⟨ret_int (tmod_pos h1 (by assumption)), rfl⟩
def NumC (A : Option Addr) (n c k : Nat) : Array Value := #[.slice A n c, .int .i64 (k : Int)]
def NxP (g : Nat) (A : Option Addr) (n c k m : Nat) (W : World) (en : Ending) (W' : World) : Prop := ∃ v : Nat, v < m ∧ en = .returned (.int .i64 (v : Int)) ∧ Row W' g 52 (NumC A n c (k + 1)) ∧ Upd W W' g
theorem tdivN (a b : Nat) : (a : Int).tdiv (b : Int) = ((a / b : Nat) : Int) := by rw [Int.tdiv_eq_ediv_of_nonneg (by omega)]; omega
theorem tmodN (a b : Nat) : (a : Int).tmod (b : Int) = ((a % b : Nat) : Int) := by rw [Int.tmod_eq_emod_of_nonneg (by omega)]; omega
theorem nx_mk {g : Nat} {A : Option Addr} {n c k m : Nat} {W w : World} (hR : Row W g 52 (NumC A n c k)) {x : Int} {v : Nat} (hx : x = (k : Int) + 1) (hv : v < m) (e : w.heap = (W.setCell ⟨g, 1, none⟩ (.int .i64 x)).heap) (e1 : w.os = W.os) (e2 : w.tape = W.tape) (e3 : w.output = W.output) : NxP g A n c k m W (.returned (.int .i64 (v : Int))) w := by
  subst hx
  have u := Upd.setCell W g 1 (.int .i64 ((k : Int) + 1))
  refine ⟨v, hv, rfl, ?_, e1, e2, e3, by rw [e]; exact u.size, fun j hj => by rw [e]; exact u.block j hj⟩
  have h := hR.set 1 (.int .i64 ((k : Int) + 1))
  unfold Row at h ⊢
  rw [e, h]
  unfold NumC
  simp
set_option maxRecDepth 100000 in
set_option maxHeartbeats 8000000 in
theorem next_nil (A : Option Addr) (c g k m : Nat) (W : World) (hR : Row W g 52 (NumC A 0 c k)) (hk : k ≤ 1000000) (hm : 1 ≤ m) (hm2 : m ≤ 1000000) : Calls Tryd.prog 24 #[.pointer (some ⟨g, 0, none⟩), .int .i64 (m : Int)] W (NxP g A 0 c k m W) := by
  have x0 : W.cell? ⟨g, 0, none⟩ = some (.slice A 0 c) := hR.cell 0
  have x1 : W.cell? ⟨g, 1, none⟩ = some (.int .i64 (k : Int)) := hR.cell 1
  have f1 := hR.frozen 1
  have k1 : IntKind.i64.wrap (k : Int) = (k : Int) := by rw [IntKind.wrap_i64]; omega
  have k2 : IntKind.i64.wrap ((k : Int) + 1) = (k : Int) + 1 := by rw [IntKind.wrap_i64]; omega
  have k3 : IntKind.i64.wrap (7 * (k : Int)) = 7 * (k : Int) := by rw [IntKind.wrap_i64]; omega
  have hv : 7 * k % m < m := Nat.mod_lt _ (by omega)
  have k4 : (7 * (k : Int)).tmod (m : Int) = ((7 * k % m : Nat) : Int) := by rw [show 7 * (k : Int) = ((7 * k : Nat) : Int) by omega, tmodN]
  obtain ⟨v, hve⟩ : ∃ v, 7 * k % m = v := ⟨_, rfl⟩
  rw [hve] at k4 hv
  have k5 : IntKind.i64.wrap (v : Int) = (v : Int) := by rw [IntKind.wrap_i64]; omega
  have m0 : (m = 0) = False := by simp; omega
  have m1 : ((m : Int) = 0) = False := by simp; omega
  clear hve
  go_enter Tryd.func24, Tryd.ntmps24
  go_wp2
  go_region_held3 (fun w' => w'.cell? ⟨g, 0, none⟩ = some (.slice A 0 c) ∧ w'.cell? ⟨g, 1, none⟩ = some (.int .i64 (k : Int))) (go_keep) (fail)
  go_wp2
  go_ret
  exact nx_mk hR rfl hv rfl rfl rfl rfl
set_option maxRecDepth 100000 in
set_option maxHeartbeats 8000000 in
theorem next_some (l : List Int) (b o c g k m : Nat) (W : World) (hR : Row W g 52 (NumC (some ⟨b, o, none⟩) l.length c k)) (hL : IsN W (some ⟨b, o, none⟩) l.length l) (h0 : 0 < l.length) (hl : l.length ≤ 1000000) (hk : k ≤ 1000000) (hm : 1 ≤ m) (hm2 : m ≤ 1000000) : Calls Tryd.prog 24 #[.pointer (some ⟨g, 0, none⟩), .int .i64 (m : Int)] W (NxP g (some ⟨b, o, none⟩) l.length c k m W) := by
  obtain ⟨b', o', e, -, hcel⟩ := hL.at_ h0
  cases e
  have x0 : W.cell? ⟨g, 0, none⟩ = some (.slice (some ⟨b, o, none⟩) l.length c) := hR.cell 0
  have x1 : W.cell? ⟨g, 1, none⟩ = some (.int .i64 (k : Int)) := hR.cell 1
  have hi : k % l.length < l.length := Nat.mod_lt _ h0
  have x2 := hcel (k % l.length) hi
  have f1 := hR.frozen 1
  obtain ⟨n, hn⟩ : ∃ n, l.length = n := ⟨_, rfl⟩
  obtain ⟨i, hie⟩ : ∃ i, k % l.length = i := ⟨_, rfl⟩
  obtain ⟨q, hqe⟩ : ∃ q, k / l.length = q := ⟨_, rfl⟩
  have hq : q ≤ k := by rw [← hqe]; exact Nat.div_le_self _ _
  have d1 : (k : Int).tmod (n : Int) = (i : Int) := by rw [← hn, tmodN, hie]
  have d2 : (k : Int).tdiv (n : Int) = (q : Int) := by rw [← hn, tdivN, hqe]
  obtain ⟨x, hx⟩ : ∃ x, l[k % l.length]'hi = x := ⟨_, rfl⟩
  have x2 : W.cell? ⟨b, o + i, none⟩ = some (.int .i64 x) := by rw [← hx, ← hie]; exact x2
  have hi : i < n := by rw [← hie, ← hn]; exact hi
  rw [hn] at x0 h0 hl
  have hp0 : 0 ≤ x % 1073741824 := Int.emod_nonneg _ (by decide)
  have hp1 : x % 1073741824 < 1073741824 := Int.emod_lt_of_pos _ (by decide)
  obtain ⟨p, hp⟩ : ∃ p : Nat, x % 1073741824 = (p : Int) := ⟨(x % 1073741824).toNat, by omega⟩
  rw [hp] at hp1
  have HPL := Lib.hid (fun w => place x 1073741824 (by decide) (by decide) w)
  rw [hp] at HPL
  have k1 : IntKind.i64.wrap (i : Int) = (i : Int) := by rw [IntKind.wrap_i64]; omega
  have k1b : IntKind.i64.wrap (q : Int) = (q : Int) := by rw [IntKind.wrap_i64]; omega
  have k2 : IntKind.i64.wrap ((k : Int) + 1) = (k : Int) + 1 := by rw [IntKind.wrap_i64]; omega
  have k3 : IntKind.i64.wrap (7 * (q : Int)) = 7 * (q : Int) := by rw [IntKind.wrap_i64]; omega
  have k3b : IntKind.i64.wrap ((p : Int) + 7 * (q : Int)) = (p : Int) + 7 * (q : Int) := by rw [IntKind.wrap_i64]; omega
  have hv : (p + 7 * q) % m < m := Nat.mod_lt _ (by omega)
  have k4 : ((p : Int) + 7 * (q : Int)).tmod (m : Int) = (((p + 7 * q) % m : Nat) : Int) := by rw [show (p : Int) + 7 * (q : Int) = ((p + 7 * q : Nat) : Int) by omega, tmodN]
  obtain ⟨v, hve⟩ : ∃ v, (p + 7 * q) % m = v := ⟨_, rfl⟩
  rw [hve] at k4 hv
  have k5 : IntKind.i64.wrap (v : Int) = (v : Int) := by rw [IntKind.wrap_i64]; omega
  have m0 : (m = 0) = False := by simp; omega
  have m1 : ((m : Int) = 0) = False := by simp; omega
  have n0 : (n = 0) = False := by simp; omega
  have n1 : ((n : Int) = 0) = False := by simp; omega
  have n2 : ((n : Int) < 1) = False := by simp; omega
  have n3 : (0 < n) = True := by simp; omega
  have i0 : (0 : Int) ≤ (i : Int) := by omega
  have i1 : (i : Int) < (n : Int) := by omega
  have HR := Lib.hid hR
  rw [hn] at HR
  have HN := Lib.hid hn
  clear hve hcel hL hR hn hie hqe hx hp
  go_enter Tryd.func24, Tryd.ntmps24
  go_wp2
  go_region_held3 (fun w' => w'.cell? ⟨g, 0, none⟩ = some (.slice (some ⟨b, o, none⟩) n c) ∧ w'.cell? ⟨g, 1, none⟩ = some (.int .i64 (k : Int)) ∧ w'.cell? ⟨b, o + i, none⟩ = some (.int .i64 x)) (go_keep) (first | (go_at_call 15; refine (HPL.out _).mono ?_; rintro en w9 ⟨rfl, rfl⟩))
  go_wp2
  go_region_held3 (fun w' => w'.cell? ⟨g, 0, none⟩ = some (.slice (some ⟨b, o, none⟩) n c) ∧ w'.cell? ⟨g, 1, none⟩ = some (.int .i64 (k : Int))) (go_keep) (fail)
  go_wp2
  go_ret
  rw [HN.out]
  exact nx_mk HR.out rfl hv rfl rfl rfl rfl
theorem next24 (l : List Int) (A : Option Addr) (c g k m : Nat) (W : World) (hR : Row W g 52 (NumC A l.length c k)) (hL : IsN W A l.length l) (hl : l.length ≤ 1000000) (hk : k ≤ 1000000) (hm : 1 ≤ m) (hm2 : m ≤ 1000000) : Calls Tryd.prog 24 #[.pointer (some ⟨g, 0, none⟩), .int .i64 (m : Int)] W (NxP g A l.length c k m W) := by
  cases l with
  | nil => exact next_nil A c g k m W hR hk hm hm2
  | cons x r =>
    obtain ⟨b, o, rfl, -, -⟩ := hL.at_ (by simp)
    exact next_some (x :: r) b o c g k m W hR hL (by simp) hl hk hm hm2
end Go.Proofs.YtigbmlgllgcbhaaDoor
