/- The law LinkFragments, its plain part: a message's way through one end. -/
import Derived.Test.YthjkhambmgepdaaLm
namespace Go.Proofs.Ythjkhambmgepdaa
open Go.RowKit
set_option linter.unusedVariables false
/-- How many bytes are sent when k lines are; whether that is all. -/
def fgT (L k : Nat) : Nat := if k = 0 then 0 else min L (52 + 56 * (k - 1))
def fgD (L k : Nat) : Bool := decide (0 < k) && decide (L ≤ 52 + 56 * (k - 1))
def fgE (m : List UInt8) (k : Nat) : LE := ⟨64, k, 0, 64, 0, if fgD m.length k = true then [] else [m], if k = 0 ∨ fgD m.length k = true then -1 else (fgT m.length k : Int), -1, [], 0⟩
def fgB (m : List UInt8) (k : Nat) : List UInt8 := (fixB m.length 4 ++ m).take (if k = 0 then 0 else 4 + fgT m.length k)
theorem fg_bound {L k : Nat} (hL : L ≤ 3000) (hd : fgD L k = false) : k ≤ 53 := by
  unfold fgD at hd
  rcases Nat.eq_zero_or_pos k with h | h
  · omega
  · simp [h] at hd
    omega
theorem fgD_pos {L k : Nat} (hd : fgD L k = false) (hk : 0 < k) : 52 + 56 * (k - 1) < L := by
  unfold fgD at hd
  simp [hk] at hd
  omega
theorem fgD_yes {L k : Nat} (hd : fgD L k = true) : 0 < k ∧ L ≤ 52 + 56 * (k - 1) := by
  unfold fgD at hd
  simpa using hd
theorem fg_ty (m : List UInt8) (k : Nat) (hm : m.length ≤ 3000) (hk : k ≤ 60) : (fgE m k).ty := by
  refine ⟨by simp only [fgE]; omega, by simp only [fgE]; omega, by simp [fgE], by simp [fgE], by simp [fgE], by simp [fgE], by simp [fgE], by simp [fgE], ?_, ?_, by simp [fgE], by simp [fgE], ?_, ?_, by simp [fgE]⟩
  · simp only [fgE]; split <;> omega
  · have : fgT m.length k ≤ 3000 := by unfold fgT; split <;> omega
    simp only [fgE]; split <;> omega
  · simp only [fgE]; split <;> simp
  · intro x hx
    simp only [fgE] at hx
    split at hx
    · simp at hx
    · rw [List.mem_singleton.1 hx]; omega
theorem fg_v (m : List UInt8) (k : Nat) (hm : m.length ≤ 3000) (hk : k ≤ 60) : vE (fgE m k) = true := by
  have h1 : vs 64 (k : Int) 0 = true := vs_mk ⟨by decide, by omega, by omega, by omega, by omega, by omega⟩
  have h2 : vr 64 0 = true := by decide
  cases hd : fgD m.length k
  · have hq : qOk [m] = true := by simp [qOk]; omega
    have ho : offOk (if k = 0 ∨ false = true then -1 else (fgT m.length k : Int)) [m] = true := by
      rcases Nat.eq_zero_or_pos k with h | h
      · simp [offOk, h]
      · have hp := fgD_pos hd h
        have ht : fgT m.length k = 52 + 56 * (k - 1) := by unfold fgT; rw [if_neg (by omega)]; omega
        rw [if_neg (by simp; omega), ht]
        unfold offOk cutB
        have h3 : decide ((52 : Int) ≤ ((52 + 56 * (k - 1) : Nat) : Int)) = true := by simp; omega
        have h4 : decide (((52 + 56 * (k - 1) : Nat) : Int) < (m.length : Int)) = true := by simp; omega
        have h5 : ((((52 + 56 * (k - 1) : Nat) : Int) - 52) % 56 == 0) = true := by rw [beq_iff_eq]; omega
        simp
        omega
    simp [vE, soundB, compB, fgE, h1, h2, hd, hq, partOk]
    simpa using ho
  · simp [vE, soundB, compB, fgE, h1, h2, hd, partOk, qOk, offOk]
theorem fg_p (m : List UInt8) (k : Nat) (hm : m.length ≤ 3000) (hk : k ≤ 60) : pendE (fgE m k) = if fgD m.length k = true then 0 else 1 := by
  unfold pendE
  rw [if_pos (fg_v m k hm hk)]
  simp only [fgE]
  split <;> rfl
section
variable {m : List UInt8} {k : Nat} (hm : m.length ≤ 3000) (hd : fgD m.length k = false)
include hm hd
theorem fg_go : nxGo (fgE m k) = true := by
  have hk := fg_bound hm hd
  have h1 : vs 64 (k : Int) 0 = true := vs_mk ⟨by decide, by omega, by omega, by omega, by omega, by omega⟩
  have h2 : 0 < fr 64 (k : Int) 0 := by unfold fr; rw [if_pos h1]; omega
  simp [nxGo, fgE, hd, h2]
theorem fg_e : nxE (fgE m k) = 0 := by
  have hk := fg_bound hm hd
  unfold nxE
  rw [if_pos (fg_v m k hm (by omega)), if_pos (fg_go hm hd), if_neg (by simp only [fgE]; omega)]
omit hm in
theorem fg_off : (fgE m k).off = if k = 0 then -1 else (fgT m.length k : Int) := by simp [fgE, hd]
omit hm in
theorem fg_m : frM (fgE m k) = m := by simp [frM, fgE, hd]
omit hm in
theorem fg_s : frS (fgE m k) = fgT m.length (k + 1) := by
  unfold frS
  rw [fg_off hd, fg_m hd]
  rcases Nat.eq_zero_or_pos k with h | h
  · subst h
    simp [fgT]
  · have hp := fgD_pos hd h
    have ht : fgT m.length k = 52 + 56 * (k - 1) := by unfold fgT; rw [if_neg (by omega)]; omega
    rw [if_neg (by omega : ¬ k = 0), if_neg (by omega), ht]
    unfold fgT
    rw [if_neg (by omega)]
    have : ((52 + 56 * (k - 1) : Nat) : Int).toNat = 52 + 56 * (k - 1) := by omega
    rw [this]
    congr 1
    omega
omit hm in
theorem fg_pl : frP (fgE m k) = if k = 0 then fixB m.length 4 ++ m.take 52 else (m.drop (fgT m.length k)).take 56 := by
  unfold frP
  rw [fg_off hd, fg_m hd]
  rcases Nat.eq_zero_or_pos k with h | h
  · subst h
    simp
  · rw [if_neg (by omega : ¬ k = 0), if_neg (by omega : ¬ k = 0), if_neg (by omega), Int.toNat_natCast]
omit hm in
theorem fg_end : nxEnd (fgE m k) = fgD m.length (k + 1) := by
  unfold nxEnd
  rw [fg_s hd, fg_m hd]
  unfold fgT fgD
  rw [if_neg (by omega)]
  rw [Bool.eq_iff_iff]
  simp
  omega
theorem fg_l : nxL (fgE m k) = fgE m (k + 1) := by
  unfold nxL
  rw [if_pos (fg_e hm hd), if_pos (fg_go hm hd)]
  unfold nxG
  rw [fg_end hd, fg_s hd]
  cases hd2 : fgD m.length (k + 1)
  · simp [fgE, hd, hd2]
  · simp [fgE, hd, hd2]
theorem fg_d : nxV (fgE m k) = LV 1 (ep 64 k) (decide (k = 0)) (frP (fgE m k)).length 0 (frP (fgE m k) ++ z56.drop (frP (fgE m k)).length) := by
  unfold nxV
  rw [if_pos (fg_e hm hd), if_pos (fg_go hm hd)]
  unfold nxD
  have h1 : decide ((fgE m k).off < 0) = decide (k = 0) := by
    rw [fg_off hd]
    rcases Nat.eq_zero_or_pos k with h | h
    · simp [h]
    · rw [if_neg (by omega)]
      have : ¬ k = 0 := by omega
      simp [this]
  rw [h1]
  rfl
omit hm in
theorem fg_short (h : (frP (fgE m k)).length < 56) : fgD m.length (k + 1) = true := by
  rw [fg_pl hd] at h
  unfold fgD
  rcases Nat.eq_zero_or_pos k with h0 | h0
  · subst h0
    rw [if_pos rfl, List.length_append, fixB_len, List.length_take] at h
    simp
    omega
  · have hp := fgD_pos hd h0
    have ht : fgT m.length k = 52 + 56 * (k - 1) := by unfold fgT; rw [if_neg (by omega)]; omega
    rw [if_neg (by omega), ht, List.length_take, List.length_drop] at h
    simp
    omega
omit hm in
theorem fg_b : fgB m k ++ frP (fgE m k) = fgB m (k + 1) := by
  rw [fg_pl hd]
  unfold fgB
  have h4 := fixB_len m.length 4
  have e4 : ∀ t, (fixB m.length 4).take (4 + t) = fixB m.length 4 := fun t => List.take_of_length_le (by omega)
  have es : ∀ t, (fixB m.length 4 ++ m).take (4 + t) = fixB m.length 4 ++ m.take t := fun t => by
    rw [List.take_append, e4, h4, Nat.add_sub_cancel_left]
  rcases Nat.eq_zero_or_pos k with h0 | h0
  · subst h0
    rw [if_pos rfl, if_pos rfl, if_neg (by omega), List.take_zero, List.nil_append, es]
    congr 1
    unfold fgT
    rw [if_neg (by omega), List.take_eq_take_iff]
    omega
  · have hp := fgD_pos hd h0
    have ht : fgT m.length k = 52 + 56 * (k - 1) := by unfold fgT; rw [if_neg (by omega)]; omega
    have ht2 : fgT m.length (k + 1) = min m.length (52 + 56 * k) := by unfold fgT; rw [if_neg (by omega)]; rfl
    rw [if_neg (by omega), if_neg (by omega), if_neg (by omega), es, es, List.append_assoc, ht, ht2, ← List.take_add]
    congr 1
    rw [List.take_eq_take_iff]
    omega
theorem fg_plen : (frP (fgE m k)).length ≤ 56 := by
  have hk := fg_bound hm hd
  exact frP_len (vE_yes (fg_v m k hm (by omega))) (by simp [fgE, hd])
end
theorem fg_all {m : List UInt8} {k : Nat} (hd : fgD m.length k = true) : fgB m k = fixB m.length 4 ++ m := by
  have h := fgD_yes hd
  unfold fgB
  rw [if_neg (by omega), List.take_of_length_le]
  rw [List.length_append, fixB_len]
  unfold fgT
  rw [if_neg (by omega)]
  omega
theorem fg_0 (m : List UInt8) : fgE m 0 = { newL 64 with q := [m] } := by simp [fgE, fgD, newL]
theorem fg_enq {m : List UInt8} (hm : m.length ≤ 3000) : enqE (newL 64) m = 0 ∧ enqL (newL 64) m = fgE m 0 := by
  have h : enqE (newL 64) m = 0 := by
    unfold enqE
    rw [if_pos (by decide), if_neg (by omega), if_neg (by decide)]
  refine ⟨h, ?_⟩
  unfold enqL
  rw [if_pos h, fg_0]
  rfl
end Go.Proofs.Ythjkhambmgepdaa
