/- Image, in plain words: damaged images. -/
import Derived.Test.YtigbmlgllgcbhaaDoorIw
import Derived.Test.YtigbmlgllgcbhaaDoorRb
namespace Go.Proofs.YtigbmlgllgcbhaaDoor
open Go.RowKit
set_option linter.unusedVariables false
set_option linter.unusedSimpArgs false
theorem mod_xor (X i : Nat) (h : X / 2 ^ i % 2 = 1) : X % 2 ^ (i + 1) = X % 2 ^ i ^^^ 2 ^ i := by
  have hb : X.testBit i = true := by rw [Nat.testBit_eq_decide_div_mod_eq, h]; rfl
  apply Nat.eq_of_testBit_eq
  intro k
  rw [Nat.testBit_mod_two_pow, Nat.testBit_xor, Nat.testBit_mod_two_pow, Nat.testBit_two_pow]
  rcases Nat.lt_trichotomy k i with hk | hk | hk
  · simp [hk, show k < i + 1 by omega, show i ≠ k by omega]
  · subst hk; simp [hb]
  · simp [show ¬ k < i by omega, show ¬ k < i + 1 by omega, show i ≠ k by omega]
theorem mod_keep (X i : Nat) (h : X / 2 ^ i % 2 = 0) : X % 2 ^ (i + 1) = X % 2 ^ i := by rw [Nat.mod_pow_succ, h]; simp
theorem burst_step (cs bs : List UInt8) (X f i j r : Nat) (hj : f + i = 8 * j + r) (hr : r < 8) (hl : j < cs.length) (hbit : X / 2 ^ i % 2 = 1) (hc : LE cs = LE bs ^^^ ((X % 2 ^ i) * 2 ^ f)) :
    LE (cs.set j (cs[j] ^^^ UInt8.ofNat (2 ^ r))) = LE bs ^^^ ((X % 2 ^ (i + 1)) * 2 ^ f) := by
  rw [LE_set cs j hl, hc, mod_xor X i hbit, Nat.xor_assoc]
  congr 1
  have e1 : ∀ a b : Nat, a * 2 ^ b = a <<< b := fun a b => by rw [Nat.shiftLeft_eq]
  rw [e1, e1, Nat.shiftLeft_xor_distrib]
  congr 1
  have h2 : 2 ^ r < 256 := Nat.lt_of_lt_of_le (Nat.pow_lt_pow_right (by omega) hr) (by decide)
  rw [UInt8.toNat_ofNat', Nat.mod_eq_of_lt (by omega), Nat.shiftLeft_eq, show (256 : Nat) = 2 ^ 8 from rfl, ← Nat.pow_mul, ← Nat.pow_add, ← Nat.pow_add]
  congr 1
  omega
theorem xor_byte (x : UInt8) (r : Nat) (hr : r < 8) : Value.int .u8 (bits .xor .u8 (x.toNat : Int) ((2 : Int) ^ r % 256)) = bv (x ^^^ UInt8.ofNat (2 ^ r)) := by
  have h2 : 2 ^ r < 256 := Nat.lt_of_lt_of_le (Nat.pow_lt_pow_right (by omega) hr) (by decide)
  have e : ((2 : Int) ^ r % 256) = ((2 ^ r : Nat) : Int) := by
    have : ((2 : Int) ^ r) = ((2 ^ r : Nat) : Int) := by rw [Int.natCast_pow]; rfl
    rw [this]
    generalize 2 ^ r = q at *
    omega
  rw [e, u8_xor_nat _ _ x.toNat_lt h2]
  unfold bv
  rw [UInt8.toNat_xor, UInt8.toNat_ofNat', Nat.mod_eq_of_lt (a := 2 ^ r) (by omega)]
theorem seg_eq {X Y : List UInt8} {o s : Nat} (h : ∀ i, i < o + s → X[i]? = Y[i]?) : seg X o s = seg Y o s := by
  apply List.ext_getElem?
  intro i
  unfold seg
  rw [List.getElem?_take, List.getElem?_take]
  split
  · rw [List.getElem?_drop, List.getElem?_drop]
    exact h _ (by omega)
  · rfl
theorem take4_eq {X Y : List UInt8} (h : ∀ i, i < 4 → X[i]? = Y[i]?) : X.take 4 = Y.take 4 := by
  have := seg_eq (o := 0) (s := 4) (fun i hi => h i (by omega))
  simpa [seg] using this
/-- What is behind the header is changed. -/
theorem hdr_flip {X ds : List UInt8} (h : hdrE X = 0) (hl : ds.length + 16 = X.length) : hdrE (X.take 16 ++ ds) = if crc (X.drop 16) ≠ crc ds then 55 else 0 := by
  obtain ⟨l16, l24, t4, v4, v8, v12⟩ := hdr_ok h
  have hg : ∀ i, i < 16 → (X.take 16 ++ ds)[i]? = X[i]? := fun i hi => by
    rw [List.getElem?_append_left (by simp; omega), List.getElem?_take, if_pos hi]
  have e4 := seg_eq (o := 4) (s := 2) (fun i hi => hg i (by omega))
  have e8 := seg_eq (o := 8) (s := 4) (fun i hi => hg i (by omega))
  have e12 := seg_eq (o := 12) (s := 4) (fun i hi => hg i (by omega))
  have et := take4_eq (fun i hi => hg i (by omega))
  have hlen : (X.take 16 ++ ds).length = X.length := by simp; omega
  have hdr : (X.take 16 ++ ds).drop 16 = ds := List.drop_left' (by simp; omega)
  unfold hdrE
  rw [e4, e8, e12, et, hlen, hdr, v4, v8, v12, t4, if_neg (by omega), if_neg (by simp), if_neg (by omega), if_neg (by omega), if_neg (by omega), if_neg (by omega)]
theorem hdr_cut {X : List UInt8} (h : hdrE X = 0) {c : Nat} (hc : c < X.length) : hdrE (X.take c) = 52 := by
  obtain ⟨l16, l24, t4, v4, v8, v12⟩ := hdr_ok h
  have hlen : (X.take c).length = c := by simp; omega
  rcases Nat.lt_or_ge c 16 with h1 | h1
  · unfold hdrE
    rw [if_pos (by rw [hlen]; exact h1)]
  · have hg : ∀ i, i < 16 → (X.take c)[i]? = X[i]? := fun i hi => by rw [List.getElem?_take, if_pos (by omega)]
    have e4 := seg_eq (o := 4) (s := 2) (fun i hi => hg i (by omega))
    have e8 := seg_eq (o := 8) (s := 4) (fun i hi => hg i (by omega))
    have et := take4_eq (fun i hi => hg i (by omega))
    unfold hdrE
    rw [e4, e8, et, hlen, v4, v8, t4, if_neg (by omega), if_neg (by simp), if_neg (by omega), if_pos (by omega)]
theorem hdr_more {X : List UInt8} (h : hdrE X = 0) (x : UInt8) : hdrE (X ++ [x]) = 53 := by
  obtain ⟨l16, l24, t4, v4, v8, v12⟩ := hdr_ok h
  have hlen : (X ++ [x]).length = X.length + 1 := by simp
  have hg : ∀ i, i < 16 → (X ++ [x])[i]? = X[i]? := fun i hi => by rw [List.getElem?_append_left (by omega)]
  have e4 := seg_eq (o := 4) (s := 2) (fun i hi => hg i (by omega))
  have e8 := seg_eq (o := 8) (s := 4) (fun i hi => hg i (by omega))
  have et := take4_eq (fun i hi => hg i (by omega))
  unfold hdrE
  rw [e4, e8, et, hlen, v4, v8, t4, if_neg (by omega), if_neg (by simp), if_neg (by omega), if_neg (by omega), if_pos (by omega)]
theorem parse_err {bs : List UInt8} {E : Int} {L : Nat} (h : hdrE bs = E) (h0 : E ≠ 0) (hL : L = bs.length) (A : Option Addr) (c : Nat) (W : World) (hA : IsB W A L bs) (hc : L ≤ c) (hl : L ≤ 1000000000) : Calls Tryd.prog 13 #[.slice A L c] W (fun en W' => en = .returned (.tuple #[.slice none 0 0, .int .i64 E]) ∧ Below W.heap.size W W') := by
  subst hL
  have hp : parE bs = E := by unfold parE; rw [if_pos (by rw [h]; exact h0), h]
  refine (parse A c bs W hA hc hl).mono ?_
  rintro en W' (⟨-, h1, h2⟩ | ⟨h1, -⟩)
  · rw [hp] at h1; exact ⟨h1, h2⟩
  · exact absurd (hp.symm.trans h1) h0
end Go.Proofs.YtigbmlgllgcbhaaDoor
