/- The encoding of a line (plain). -/
import Derived.Test.YthjkhambmgepdaaSum
import Derived.Test.YthjkhambmgepdaaLine
namespace Go.Proofs.Ythjkhambmgepdaa
open Go.RowKit
set_option linter.unusedVariables false
def hdB (k : Int) (e f : Bool) : UInt8 := UInt8.ofNat (k.toNat + (if f then 4 else 0) + (if e then 8 else 0))
def ln8 (k : Int) (e f : Bool) (n a : Int) (h l : UInt8) : List UInt8 := [hdB k e f, UInt8.ofNat n.toNat, UInt8.ofNat (a.toNat % 256), UInt8.ofNat (a.toNat / 256), h, l, 0, 0]
def ln0 (k : Int) (e f : Bool) (n a : Int) (p : List UInt8) : List UInt8 := ln8 k e f n a 0 0 ++ p
def lnS (k : Int) (e f : Bool) (n a : Int) (p : List UInt8) : Nat := sum16 (ln0 k e f n a p)
def lnB (k : Int) (e f : Bool) (n a : Int) (p : List UInt8) : List UInt8 := ln8 k e f n a (UInt8.ofNat (lnS k e f n a p / 256)) (UInt8.ofNat (lnS k e f n a p % 256)) ++ p
def clr (n : Int) (p : List UInt8) : Bool := (p.drop n.toNat).all (· == 0)
def lnOk1 (k n : Int) : Bool := (k == 1 || k == 2) && decide (0 ≤ n) && decide (n ≤ 56)
def lnOk2 (k : Int) (e f : Bool) (n : Int) (p : List UInt8) : Bool := clr n p && !((k == 2) && (!(n == 0) || f || e))
def lnE (k : Int) (e f : Bool) (n : Int) (p : List UInt8) : Int := if lnOk1 k n then (if lnOk2 k e f n p then 0 else 54) else 6
def gK (bs : List UInt8) : Int := ((bs.getD 0 0).toNat % 4 : Nat)
def gF (bs : List UInt8) : Bool := (bs.getD 0 0).toNat / 4 % 2 == 1
def gE (bs : List UInt8) : Bool := (bs.getD 0 0).toNat / 8 % 2 == 1
def gN (bs : List UInt8) : Int := ((bs.getD 1 0).toNat : Nat)
def gA (bs : List UInt8) : Int := ((bs.getD 2 0).toNat + 256 * (bs.getD 3 0).toNat : Nat)
def gP (bs : List UInt8) : List UInt8 := bs.drop 8
def dcOk (bs : List UInt8) : Bool := (lnE (gK bs) (gE bs) (gF bs) (gN bs) (gP bs) == 0) && (lnB (gK bs) (gE bs) (gF bs) (gN bs) (gA bs) (gP bs) == bs)
def dcE (bs : List UInt8) : Int := if bs.length < 64 then 52 else if 64 < bs.length then 53 else if sum16 bs ≠ 0 then 55 else if dcOk bs then 0 else 54
theorem ln8_len (k : Int) (e f : Bool) (n a : Int) (h l : UInt8) : (ln8 k e f n a h l).length = 8 := rfl
theorem lnB_len (k : Int) (e f : Bool) (n a : Int) (p : List UInt8) (hp : p.length = 56) : (lnB k e f n a p).length = 64 := by unfold lnB; rw [List.length_append, ln8_len, hp]
theorem u8_ofNat {x : Nat} (h : x < 256) : (UInt8.ofNat x).toNat = x := by rw [UInt8.toNat_ofNat', Nat.mod_eq_of_lt (by omega)]
theorem sum_lnB (k : Int) (e f : Bool) (n a : Int) (p : List UInt8) : sum16 (lnB k e f n a p) = 0 := by
  have hs : lnS k e f n a p ≤ 65535 := sum16_le _
  have h1 : ∀ h l : UInt8, WS (ln8 k e f n a h l ++ p) = WS (ln8 k e f n a 0 0 ++ p) + (h.toNat * 256 + l.toNat) := fun h l => by
    rw [WS_append _ _ (by rw [ln8_len]), WS_append _ _ (by rw [ln8_len])]
    simp only [ln8, WS]
    have e0 : (0 : UInt8).toNat = 0 := rfl
    omega
  have h2 := h1 (UInt8.ofNat (lnS k e f n a p / 256)) (UInt8.ofNat (lnS k e f n a p % 256))
  rw [u8_ofNat (by omega), u8_ofNat (by omega)] at h2
  have h3 : lnS k e f n a p = 65535 - normS (WS (ln8 k e f n a 0 0 ++ p)) := rfl
  unfold sum16 lnB
  rw [h2]
  generalize WS (ln8 k e f n a 0 0 ++ p) = T at *
  generalize lnS k e f n a p = s at *
  unfold normS at h3 ⊢
  split at h3 <;> split <;> omega
theorem lnOk1_k {k n : Int} (h : lnOk1 k n = true) : (k = 1 ∨ k = 2) ∧ 0 ≤ n ∧ n ≤ 56 := by
  simp only [lnOk1, Bool.and_eq_true, Bool.or_eq_true, beq_iff_eq, decide_eq_true_eq] at h
  exact ⟨h.1.1, h.1.2, h.2⟩
theorem lnE_yes {k : Int} {e f : Bool} {n : Int} {p : List UInt8} (h : lnE k e f n p = 0) : lnOk1 k n = true ∧ lnOk2 k e f n p = true := by
  unfold lnE at h
  cases h1 : lnOk1 k n <;> cases h2 : lnOk2 k e f n p <;> simp [h1, h2] at h ⊢
theorem hdB_nat (k : Int) (e f : Bool) (h : k = 1 ∨ k = 2) : ∃ r : Nat, r = k.toNat ∧ r < 4 ∧ (hdB k e f).toNat = r + (if f then 4 else 0) + (if e then 8 else 0) := by
  refine ⟨k.toNat, rfl, by omega, ?_⟩
  unfold hdB
  exact u8_ofNat (by cases e <;> cases f <;> simp <;> omega)
structure DecEnc (k : Int) (e f : Bool) (n a : Int) (p bs : List UInt8) : Prop where
  len : bs.length = 64
  sum : sum16 bs = 0
  k : gK bs = k
  e : gE bs = e
  f : gF bs = f
  n : gN bs = n
  a : gA bs = a
  p : gP bs = p
  ok : dcOk bs = true
  dc : dcE bs = 0
theorem dec_enc {k : Int} {e f : Bool} {n a : Int} {p : List UInt8} (h : lnE k e f n p = 0) (hp : p.length = 56) (a0 : 0 ≤ a) (a1 : a < 65536) : DecEnc k e f n a p (lnB k e f n a p) := by
  obtain ⟨h1, h2⟩ := lnE_yes h
  obtain ⟨hk, n0, n1⟩ := lnOk1_k h1
  obtain ⟨r, hr, hr4, hb⟩ := hdB_nat k e f hk
  have eK : gK (lnB k e f n a p) = k := by
    show (((hdB k e f).toNat % 4 : Nat) : Int) = k
    rw [hb]
    cases e <;> cases f <;> simp <;> omega
  have eF : gF (lnB k e f n a p) = f := by
    show ((hdB k e f).toNat / 4 % 2 == 1) = f
    rw [hb]
    cases e <;> cases f <;> simp <;> omega
  have eE : gE (lnB k e f n a p) = e := by
    show ((hdB k e f).toNat / 8 % 2 == 1) = e
    rw [hb]
    cases e <;> cases f <;> simp <;> omega
  have eN : gN (lnB k e f n a p) = n := by
    show (((UInt8.ofNat n.toNat).toNat : Nat) : Int) = n
    rw [u8_ofNat (by omega)]
    omega
  have eA : gA (lnB k e f n a p) = a := by
    show (((UInt8.ofNat (a.toNat % 256)).toNat + 256 * (UInt8.ofNat (a.toNat / 256)).toNat : Nat) : Int) = a
    rw [u8_ofNat (by omega), u8_ofNat (by omega)]
    omega
  have eP : gP (lnB k e f n a p) = p := rfl
  have hl := lnB_len k e f n a p hp
  have hs := sum_lnB k e f n a p
  have ok : dcOk (lnB k e f n a p) = true := by
    unfold dcOk
    rw [eK, eE, eF, eN, eA, eP, h]
    simp
  refine ⟨hl, hs, eK, eE, eF, eN, eA, eP, ok, ?_⟩
  unfold dcE
  rw [hl, hs, ok]
  rfl
theorem WS_set : ∀ (bs : List UInt8) (i : Nat) (y : UInt8) (h : i < bs.length), WS (bs.set i y) + bs[i].toNat * (if i % 2 = 0 then 256 else 1) = WS bs + y.toNat * (if i % 2 = 0 then 256 else 1)
  | [a], 0, y, _ => by simp [WS]; omega
  | a :: b :: r, 0, y, _ => by simp [WS]; omega
  | a :: b :: r, 1, y, _ => by simp [WS]; omega
  | a :: b :: r, i + 2, y, h => by
    have ih := WS_set r i y (by simpa using h)
    have e : (i + 2) % 2 = i % 2 := by omega
    simp only [List.set_cons_succ, WS, List.getElem_cons_succ, e]
    omega
theorem sum_change (bs : List UInt8) (i : Nat) (y : UInt8) (h : i < bs.length) (hy : y ≠ bs[i]) (hs : sum16 bs = 0) : sum16 (bs.set i y) ≠ 0 := by
  have h1 := WS_set bs i y h
  have h2 : y.toNat ≠ bs[i].toNat := fun e => hy (UInt8.toNat_inj.1 e)
  have h3 := y.toNat_lt
  have h4 := bs[i].toNat_lt
  unfold sum16 normS at hs ⊢
  generalize y.toNat = u at *
  generalize bs[i].toNat = v at *
  generalize WS (bs.set i y) = A at *
  generalize WS bs = B at *
  split at h1 <;> split at hs <;> split <;> omega
theorem dc_change {bs : List UInt8} (h : bs.length = 64) (hs : sum16 bs = 0) (i : Nat) (y : UInt8) (hi : i < bs.length) (hy : y ≠ bs[i]) : dcE (bs.set i y) = 55 := by
  unfold dcE
  rw [List.length_set, h]
  simp [sum_change bs i y hi hy hs]
theorem dc_short {bs : List UInt8} (h : bs.length < 64) : dcE bs = 52 := by unfold dcE; rw [if_pos h]
theorem dc_long {bs : List UInt8} (h : 64 < bs.length) : dcE bs = 53 := by unfold dcE; rw [if_neg (by omega), if_pos h]
end Go.Proofs.Ythjkhambmgepdaa
