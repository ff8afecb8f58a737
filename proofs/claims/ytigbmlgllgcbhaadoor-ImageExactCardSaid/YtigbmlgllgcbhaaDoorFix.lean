/- Contracts of the functions that decode integers of a fixed width, and of the reference's. -/
import Derived.Test.YtigbmlgllgcbhaaDoorWcrc
import Derived.Test.YtigbmlgllgcbhaaDoorMake
import Derived.IntWalk
import Derived.Deep.DeepCutAuto
namespace Go.Proofs.YtigbmlgllgcbhaaDoor
open Go.RowKit
set_option linter.unusedVariables false
/-- The bytes as one number, the first byte the lowest. -/
def leN : List UInt8 → Nat
  | [] => 0
  | x :: r => x.toNat + 256 * leN r
theorem leN_lt : ∀ l : List UInt8, leN l < 256 ^ l.length
  | [] => by simp [leN]
  | x :: r => by
    have h := leN_lt r
    have h1 := x.toNat_lt
    simp only [leN, List.length_cons, Nat.pow_succ]
    omega
theorem leN_snoc : ∀ (l : List UInt8) (x : UInt8), leN (l ++ [x]) = leN l + x.toNat * 256 ^ l.length
  | [], x => by simp [leN]
  | y :: l, x => by
    simp only [List.cons_append, leN, leN_snoc l x, List.length_cons, Nat.pow_succ]
    rw [Nat.mul_add, Nat.mul_comm (256 ^ l.length) 256, ← Nat.mul_assoc x.toNat, Nat.mul_comm x.toNat 256, Nat.mul_assoc 256]
    omega
def seg (bs : List UInt8) (o s : Nat) : List UInt8 := (bs.drop o).take s
theorem seg_len {bs : List UInt8} {o s : Nat} (h : o + s ≤ bs.length) : (seg bs o s).length = s := by simp [seg]; omega
theorem seg_get {bs : List UInt8} {o s k : Nat} (h : o + s ≤ bs.length) (hk : k < s) : (seg bs o s)[k]'(by rw [seg_len h]; exact hk) = bs[o + k] := by simp [seg]
theorem pow_256r (k : Nat) : 256 ^ k = 2 ^ (8 * k) := by rw [Nat.pow_mul]
theorem pow_le8 {k : Nat} (h : k ≤ 8) : 256 ^ k ≤ 18446744073709551616 := Nat.le_trans (Nat.pow_le_pow_right (by omega) h) (by decide)
theorem wrapU64 {x : Nat} (h : x < 18446744073709551616) : IntKind.u64.wrap (x : Int) = (x : Int) := by rw [IntKind.wrap_u64]; omega
theorem or_shl {L x k : Nat} (hx : x < 256) (hk : k < 8) (hL : L < 256 ^ k) : bits .or .u64 (L : Int) (IntKind.u64.wrap (IntKind.u64.wrap (x : Int) * 2 ^ (8 * k))) = ((L + x * 256 ^ k : Nat) : Int) := by
  have hp := Nat.pow_pos (n := k) (show 0 < 256 by omega)
  have h1 : x * 256 ^ k < 256 * 256 ^ k := Nat.mul_lt_mul_of_pos_right hx hp
  have h2 : 256 * 256 ^ k ≤ 18446744073709551616 := by rw [Nat.mul_comm, ← Nat.pow_succ]; exact pow_le8 (by omega)
  have h3 : (2 : Int) ^ (8 * k) = ((256 ^ k : Nat) : Int) := by rw [pow_256r]; simp
  have h4 : 256 ^ k ≤ 256 * 256 ^ k := by omega
  rw [h3, wrapU64 (by omega), ← Int.natCast_mul, wrapU64 (by omega), u64_or_nat _ _ (by omega) (by omega)]
  congr 1
  rw [pow_256r] at *
  have := Nat.two_pow_add_eq_or_of_lt (i := 8 * k) hL x
  rw [Nat.or_comm, Nat.mul_comm, ← this]
  omega
/-- What decoding s bytes at off yields: the number, the error. -/
def fixR (bs : List UInt8) (off : Int) (s : Nat) : Nat × Nat :=
  if off < 0 ∨ (bs.length : Int) < off then (0, 6) else if bs.length - off.toNat < s then (0, 52) else (leN (seg bs off.toNat s), 0)
theorem fixR_lt (bs : List UInt8) (off : Int) (s : Nat) : (fixR bs off s).1 < 256 ^ s := by
  unfold fixR
  have := Nat.pow_pos (n := s) (show 0 < 256 by omega)
  split
  · exact this
  · split
    · exact this
    · rename_i h1 h2
      have h := leN_lt (seg bs off.toNat s)
      rwa [seg_len (by omega)] at h
/-- What a call that decodes hands back; nothing is changed. -/
def FixPost (bs : List UInt8) (off : Int) (s : Nat) (k : IntKind) (w : World) (e : Ending) (w' : World) : Prop := e = .returned (.tuple #[.int k ((fixR bs off s).1 : Nat), .int .i64 ((fixR bs off s).2 : Nat)]) ∧ w' = w
theorem fixed01 (A : Option Addr) (n c : Nat) (bs : List UInt8) (off : Int) (s : Nat) (w : World) (hA : IsB w A n bs) (hn : n ≤ 1000000000) (s0 : 0 < s) (s8 : s ≤ 8) (b0 : -9223372036854775808 ≤ off) (b1 : off < 9223372036854775808) :
    Calls Tryd.prog 44 #[.slice A n c, .int .i64 off, .int .i64 s] w (FixPost bs off s .u64 w) := by
  have hl := hA.1
  rcases (by omega : off < 0 ∨ (0 ≤ off ∧ (n : Int) < off) ∨ (0 ≤ off ∧ off ≤ n)) with h1 | ⟨h0, h1⟩ | ⟨h0, h1⟩
  · go_enter Tryd.func44, Tryd.ntmps44
    go_wp2
    refine bodyPost_ret (v := .tuple #[.int .u64 0, .int .i64 6]) (by simp [results, Tryd.results44, go_sem]) rfl ⟨by rw [fixR, if_pos (.inl h1)]; rfl, rfl⟩
  · have h2 : ¬ off < 0 := by omega
    go_enter Tryd.func44, Tryd.ntmps44
    go_wp2
    refine bodyPost_ret (v := .tuple #[.int .u64 0, .int .i64 6]) (by simp [results, Tryd.results44, go_sem]) rfl ⟨by rw [fixR, if_pos (.inr (by omega))]; rfl, rfl⟩
  · obtain ⟨o, rfl⟩ := Int.eq_ofNat_of_zero_le h0
    have h4 : o ≤ n := by omega
    have h5 : (o : Int) ≤ n := by omega
    clear b0 b1 h0 h1
    have hR : fixR bs o s = if n - o < s then (0, 52) else (leN (seg bs o s), 0) := by
      rw [fixR, if_neg (by omega), ← hl]
      rfl
    by_cases h2 : n - o < s
    · rw [if_pos h2] at hR
      have HR := Lib.hid hR
      have h3 : (n : Int) - o < s := by omega
      clear hR h2
      go_enter Tryd.func44, Tryd.ntmps44
      go_wp2
      refine bodyPost_ret (v := .tuple #[.int .u64 0, .int .i64 52]) (by simp [results, Tryd.results44, go_sem]) rfl ⟨by rw [HR.out]; rfl, rfl⟩
    · rw [if_neg h2] at hR
      have HR := Lib.hid hR
      clear hR
      have hos : o + s ≤ bs.length := by omega
      have h3 : ¬ (n : Int) - o < s := by omega
      clear h2
      have HL := Lib.hid (seg_len hos)
      have HG := Lib.hid (fun k (hk : k < s) => seg_get hos hk)
      obtain ⟨b1, o1, e1, f1⟩ := hA.2 (by omega)
      subst e1
      have HC : Hid (∀ k, (hk : k < s) → w.cell? ⟨b1, o1 + (o + k), none⟩ = some (.int .u8 (((seg bs o s)[k]'(by rw [HL.out]; exact hk)).toNat : Int))) := Lib.hid (fun k hk => by rw [HG.out k hk]; exact f1 (o + k) (by omega))
      clear f1 hA HG
      generalize seg bs o s = sg at *
      clear hl
      go_enter Tryd.func44, Tryd.ntmps44
      go_wp2
      go_loop [8, 9] (fun x i => ∃ k : Nat, k ≤ s ∧ i = .int .i64 k ∧ x = .int .u64 (leN (sg.take k) : Nat)) (fun _ i => s - (intOf i).toNat)
      case atStart => exact ⟨0, by omega, rfl, rfl⟩
      case round =>
        obtain ⟨k, hk, rfl, rfl⟩ := hrel
        by_cases hks : k < s
        · have hc := HC.out k hks
          have hlen := HL.out
          obtain ⟨x, hx⟩ : ∃ x, x = sg[k]'(by omega) := ⟨_, rfl⟩
          rw [← hx] at hc
          have HX := Lib.hid hx
          have hlt : leN (sg.take k) < 256 ^ k := by have := leN_lt (sg.take k); rwa [List.length_take, Nat.min_eq_left (by omega)] at this
          have HS : Hid (leN (sg.take (k + 1)) = leN (sg.take k) + x.toNat * 256 ^ k) := Lib.hid (by
            rw [List.take_succ_eq_append_getElem (by omega), leN_snoc, ← HX.out, List.length_take, Nat.min_eq_left (by omega)])
          clear hx
          have E := or_shl (L := leN (sg.take k)) x.toNat_lt (show k < 8 by omega) hlt
          rw [← HS.out] at E
          have HE := Lib.hid E
          clear E hlt
          go_upto_region 8 with (fail)
          rw [HE.out]
          go_wp2
          exact ⟨⟨k + 1, by omega, by go_num, rfl⟩, by simp [intOf]; omega⟩
        · obtain rfl : k = s := by omega
          have e : sg.take k = sg := List.take_of_length_le (by have := HL.out; omega)
          rw [e]
          clear e
          go_wp2
          refine bodyPost_ret (v := .tuple #[.int .u64 (leN sg : Nat), .int .i64 0]) (by simp [results, Tryd.results44, go_sem]) rfl ⟨by rw [HR.out]; rfl, rfl⟩
end Go.Proofs.YtigbmlgllgcbhaaDoor
