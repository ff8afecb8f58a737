/- urpc: what the bytes of a remote message are, in plain words. -/
import Derived.Test.YthjkhambmgepdaaUvc
namespace Go.Proofs.Ythjkhambmgepdaa
open Go.RowKit
set_option linter.unusedVariables false
theorem Grp.ex (v : Nat) : ∃ s, Grp v s := by
  induction v using Nat.strongRecOn with
  | ind v ih =>
    rcases Nat.lt_or_ge v 128 with h | h
    · exact ⟨1, by omega, by omega, .inl rfl⟩
    · obtain ⟨s, h1, h2, h3⟩ := ih (v / 128) (by omega)
      refine ⟨s + 1, by omega, ?_, .inr ?_⟩
      · rw [Nat.pow_succ]; omega
      · rw [Nat.add_sub_cancel]
        rcases h3 with h3 | h3
        · rw [h3]; omega
        · have : s = s - 1 + 1 := by omega
          rw [this, Nat.pow_succ]
          omega
noncomputable def sz (v : Nat) : Nat := Classical.choose (Grp.ex v)
theorem sz_grp (v : Nat) : Grp v (sz v) := Classical.choose_spec (Grp.ex v)
noncomputable def uB (v : Nat) : List UInt8 := uvB v (sz v)
theorem uB_len (v : Nat) : (uB v).length = sz v := uvB_len v (sz v)
theorem uB_of {v j : Nat} (h : Grp v j) : uvB v j = uB v := by unfold uB; rw [h.uniq (sz_grp v)]
theorem uB_small (v : Nat) (h : v < 18446744073709551616) : (uB v).length ≤ 10 := by rw [uB_len]; exact (sz_grp v).le h
theorem uB_at {v : Nat} (hv : v < 18446744073709551616) (h r : List UInt8) : uvR (h ++ (uB v ++ r)) (h.length : Nat) = (v, h.length + (uB v).length, 0) := by
  rw [uB_len]
  exact uvR_enc (sz_grp v) hv h r
theorem bR_enc {p : List UInt8} {limit : Int} (hl : (p.length : Int) ≤ limit) (h6 : p.length < 18446744073709551616) (h : List UInt8) : bR (h ++ (uB p.length ++ p)) (h.length : Nat) limit = (p, (h ++ (uB p.length ++ p)).length, 0) := by
  unfold bR
  rw [uB_at h6]
  rw [if_neg (by simp; omega), if_neg (by simp), if_neg (by simp; omega), if_neg (by simp; omega)]
  have e : (h ++ (uB p.length ++ p)).drop (h.length + (uB p.length).length) = p := by
    rw [← List.append_assoc, ← List.length_append, List.drop_left]
  simp only [e, List.take_length]
  simp [Nat.add_assoc]
structure RM where
  (k n s e : Int) (b : List UInt8)
def RM.req (m : RM) : Bool := decide (m.k = 1) && (decide (0 ≤ m.s) && (decide (m.s ≤ 65535) && decide (m.e = 0)))
def RM.rep (m : RM) : Bool := decide (m.k = 2) && (decide (m.s = 0) && (decide (0 ≤ m.e) && (decide (m.e ≤ 255) && (decide (m.e = 0) || decide (m.b.length = 0)))))
def RM.ok (m : RM) : Bool := decide (1 ≤ m.n) && (decide (m.n ≤ 1099511627776) && (decide (m.b.length ≤ 65536) && (m.req || m.rep)))
def RM.d (m : RM) : Int := if m.k = 1 then m.s else m.e
noncomputable def RM.by (m : RM) : List UInt8 := uB m.k.toNat ++ (uB m.n.toNat ++ (uB m.d.toNat ++ (uB m.b.length ++ m.b)))
structure RM.Ok (m : RM) : Prop where
  n0 : 1 ≤ m.n
  n1 : m.n ≤ 1099511627776
  b : m.b.length ≤ 65536
  c : (m.k = 1 ∧ 0 ≤ m.s ∧ m.s ≤ 65535 ∧ m.e = 0) ∨ (m.k = 2 ∧ m.s = 0 ∧ 0 ≤ m.e ∧ m.e ≤ 255 ∧ (m.e = 0 ∨ m.b.length = 0))
theorem RM.ok_iff {m : RM} : m.ok = true ↔ m.Ok := by
  unfold RM.ok RM.req RM.rep
  simp only [Bool.and_eq_true, Bool.or_eq_true, decide_eq_true_eq]
  constructor
  · rintro ⟨h1, h2, h3, h4⟩
    exact ⟨h1, h2, h3, h4⟩
  · rintro ⟨h1, h2, h3, h4⟩
    exact ⟨h1, h2, h3, h4⟩
def dK (bs : List UInt8) : Nat × Nat × Nat := uvR bs 0
def dN (bs : List UInt8) : Nat × Nat × Nat := uvR bs ((dK bs).2.1 : Nat)
def dT (bs : List UInt8) : Nat × Nat × Nat := uvR bs ((dN bs).2.1 : Nat)
def dB (bs : List UInt8) : List UInt8 × Nat × Nat := bR bs ((dT bs).2.1 : Nat) 65536
def dO (r : Nat × Nat × Nat) : Bool := decide (r.2.2 = 0) && decide (r.1 ≤ 1099511627776)
def dM (bs : List UInt8) : RM := ⟨(dK bs).1, (dN bs).1, if (dK bs).1 = 2 then 0 else (dT bs).1, if (dK bs).1 = 2 then (dT bs).1 else 0, (dB bs).1⟩
def dOk (bs : List UInt8) : Bool := dO (dK bs) && (dO (dN bs) && (dO (dT bs) && (decide ((dB bs).2.2 = 0) && (decide ((dB bs).2.1 = bs.length) && (dM bs).ok))))
theorem RM.Ok.k {m : RM} (h : m.Ok) : m.k = 1 ∨ m.k = 2 := by rcases h.c with h | h <;> omega
theorem RM.Ok.d {m : RM} (h : m.Ok) : 0 ≤ m.d ∧ m.d ≤ 65535 := by
  unfold RM.d
  rcases h.c with ⟨h1, h2⟩ | ⟨h1, h2⟩
  · rw [if_pos h1]; omega
  · rw [if_neg (by omega)]; omega
/-- The bytes of a valid message yield it. -/
theorem rm_dec {m : RM} (h : m.ok = true) : dOk m.by = true ∧ dM m.by = m := by
  have hm := RM.ok_iff.1 h
  have hk := hm.k
  have hd := hm.d
  have hb := hm.b
  have hn0 := hm.n0
  have hn1 := hm.n1
  have eK : dK m.by = (m.k.toNat, (uB m.k.toNat).length, 0) := by
    have := uB_at (v := m.k.toNat) (by omega) [] (uB m.n.toNat ++ (uB m.d.toNat ++ (uB m.b.length ++ m.b)))
    simp only [List.nil_append, List.length_nil, Nat.zero_add] at this
    exact this
  have eN : dN m.by = (m.n.toNat, (uB m.k.toNat ++ uB m.n.toNat).length, 0) := by
    have := uB_at (v := m.n.toNat) (by omega) (uB m.k.toNat) (uB m.d.toNat ++ (uB m.b.length ++ m.b))
    unfold dN
    rw [eK, List.length_append]
    exact this
  have eT : dT m.by = (m.d.toNat, (uB m.k.toNat ++ uB m.n.toNat ++ uB m.d.toNat).length, 0) := by
    have := uB_at (v := m.d.toNat) (by omega) (uB m.k.toNat ++ uB m.n.toNat) (uB m.b.length ++ m.b)
    unfold dT
    rw [eN, show (uB m.k.toNat ++ uB m.n.toNat ++ uB m.d.toNat).length = (uB m.k.toNat ++ uB m.n.toNat).length + (uB m.d.toNat).length from List.length_append]
    rw [List.append_assoc] at this
    exact this
  have eB : dB m.by = (m.b, m.by.length, 0) := by
    have := bR_enc (p := m.b) (limit := 65536) (by omega) (by omega) (uB m.k.toNat ++ uB m.n.toNat ++ uB m.d.toNat)
    unfold dB
    rw [eT]
    rw [List.append_assoc, List.append_assoc] at this
    exact this
  have eM : dM m.by = m := by
    unfold dM
    rw [eK, eN, eT, eB]
    unfold RM.d at hd ⊢
    obtain ⟨k, n, s, e, b⟩ := m
    simp only at hk hd hn0 hn1 hm ⊢
    have hc := hm.c
    simp only at hc
    rcases hk with rfl | rfl
    · simp only [if_true]
      simp only [if_true] at hd
      have : ((1 : Int).toNat : Nat) ≠ 2 := by decide
      rw [if_neg this, if_neg this]
      simp
      omega
    · simp only [show ¬ (2 : Int) = 1 by omega, if_false] at hd ⊢
      simp
      omega
  refine ⟨?_, eM⟩
  unfold dOk
  rw [eM, eB, eT, eN, eK, h]
  simp [dO]
  omega
/-- Bytes that are decoded are those of what they yield. -/
theorem rm_enc {bs : List UInt8} (h : dOk bs = true) : (dM bs).by = bs := by
  unfold dOk dO at h
  simp only [Bool.and_eq_true, decide_eq_true_eq] at h
  obtain ⟨⟨k1, k2⟩, ⟨n1, n2⟩, ⟨t1, t2⟩, b1, b2, hm⟩ := h
  have hm := RM.ok_iff.1 hm
  obtain ⟨vk, ak, eK⟩ : ∃ v a, dK bs = (v, a, 0) := ⟨_, _, by rw [← k1]⟩
  have eK' := eK
  unfold dK at eK'
  obtain ⟨j1, p1, rfl, l1, c1, g1, -⟩ := uvR_conv (o := 0) eK'
  obtain ⟨vn, an, eN⟩ : ∃ v a, dN bs = (v, a, 0) := ⟨_, _, by rw [← n1]⟩
  have eN' := eN
  unfold dN at eN'
  rw [eK] at eN'
  obtain ⟨j2, p2, rfl, l2, c2, g2, -⟩ := uvR_conv eN'
  obtain ⟨vt, at_, eT⟩ : ∃ v a, dT bs = (v, a, 0) := ⟨_, _, by rw [← t1]⟩
  have eT' := eT
  unfold dT at eT'
  rw [eN] at eT'
  obtain ⟨j3, p3, rfl, l3, c3, g3, -⟩ := uvR_conv eT'
  obtain ⟨vb, ab, eB⟩ : ∃ v a, dB bs = (v, a, 0) := ⟨_, _, by rw [← b1]⟩
  have eB' := eB
  unfold dB at eB'
  rw [eT] at eB'
  obtain ⟨v, j4, u4, rfl, p4, rfl, l4, g4, c4⟩ := bR_conv eB'
  rw [eB] at b2
  dsimp only at c1 c2 c3 c4
  have b2 : 0 + j1 + j2 + j3 + (j4 + vb.length) = bs.length := b2
  have hd : (dM bs).d.toNat = vt := by
    unfold RM.d
    rcases hm.c with ⟨h1, -⟩ | ⟨h1, -⟩
    · rw [if_pos h1]
      unfold dM at h1 ⊢
      rw [eK] at h1 ⊢
      simp only at h1 ⊢
      rw [if_neg (by omega), eT]
      rfl
    · rw [if_neg (by omega)]
      unfold dM at h1 ⊢
      rw [eK] at h1 ⊢
      simp only at h1 ⊢
      rw [if_pos (by omega), eT]
      rfl
  have hk : (dM bs).k.toNat = vk := by unfold dM; rw [eK]; rfl
  have hn : (dM bs).n.toNat = vn := by unfold dM; rw [eN]; rfl
  have hb : (dM bs).b = vb := by unfold dM; rw [eB]
  unfold RM.by
  rw [hk, hn, hd, hb, ← uB_of g1, ← uB_of g2, ← uB_of g3, ← uB_of g4, ← c1, ← c2, ← c3, ← c4]
  rw [List.drop_zero]
  rw [List.take_of_length_le (i := j4 + vb.length) (by rw [List.length_drop]; omega)]
  rw [show 0 + j1 + j2 + j3 = j1 + j2 + j3 by omega, show 0 + j1 + j2 = j1 + j2 by omega, show 0 + j1 = j1 by omega]
  have e1 : bs.drop (j1 + j2 + j3) = ((bs.drop j1).drop j2).drop j3 := by simp [List.drop_drop, Nat.add_assoc]
  have e2 : bs.drop (j1 + j2) = (bs.drop j1).drop j2 := by simp [List.drop_drop]
  rw [e1, e2, List.take_append_drop, List.take_append_drop, List.take_append_drop]
end Go.Proofs.Ythjkhambmgepdaa
