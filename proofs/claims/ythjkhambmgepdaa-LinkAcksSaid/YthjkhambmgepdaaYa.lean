/- Links: an end that only receives: the wire after i lines of one long message, in plain words. -/
import Derived.Test.YthjkhambmgepdaaXp
namespace Go.Proofs.Ythjkhambmgepdaa
open Go.RowKit
set_option linter.unusedVariables false
theorem trS_E (S : WrS) (s : Nat) : (trS S s).E s = nxL (S.E s) := upd_self _ _ _
theorem trS_E' (S : WrS) {s t : Nat} (h : t ≠ s) : (trS S s).E t = S.E t := upd_other h
theorem trS_Y (S : WrS) (s : Nat) : (trS S s).Y (1 - s) = S.Y (1 - s) ++ [nxn (S.E s)] := upd_self _ _ _
theorem trS_Y' (S : WrS) {s t : Nat} (h : t ≠ 1 - s) : (trS S s).Y t = S.Y t := upd_other h
theorem deS_E (S : WrS) (s : Nat) (l : Ln) (ls : List Ln) : (deS S s l ls).E s = dvG (S.E s) l.k l.f l.n l.a l.p := upd_self _ _ _
theorem deS_E' (S : WrS) {s t : Nat} (l : Ln) (ls : List Ln) (h : t ≠ s) : (deS S s l ls).E t = S.E t := upd_other h
theorem deS_Y (S : WrS) (s : Nat) (l : Ln) (ls : List Ln) : (deS S s l ls).Y s = ls := upd_self _ _ _
theorem deS_Y' (S : WrS) {s t : Nat} (l : Ln) (ls : List Ln) (h : t ≠ s) : (deS S s l ls).Y t = S.Y t := upd_other h
theorem deS_T' (S : WrS) {s t : Nat} (l : Ln) (ls : List Ln) (h : t ≠ s) : (deS S s l ls).T t = S.T t := upd_other h
theorem enqS_E (S : WrS) (s : Nat) (m : List UInt8) : (enqS S s m).E s = { S.E s with q := (S.E s).q ++ [m] } := upd_self _ _ _
theorem enqS_E' (S : WrS) {s t : Nat} (m : List UInt8) (h : t ≠ s) : (enqS S s m).E t = S.E t := upd_other h
theorem enqS_V (S : WrS) (s : Nat) (m : List UInt8) : (enqS S s m).V s = S.V s ++ [m] := upd_self _ _ _
/-- i lines are sent from end 0, j of them have been looked at by end 1's transmit. -/
structure AkT (h : Nat) (m : List UInt8) (i j : Nat) (S : WrS) : Prop where
  n0 : (S.E 0).n = 2 * (h : Int)
  q0 : (S.E 0).q = [m]
  s0 : (S.E 0).s = i
  a0 : (S.E 0).a = 0
  r0 : (S.E 0).rc = 0
  t0 : (S.E 0).told = 0
  o0 : (i = 0 ∧ (S.E 0).off = -1) ∨ (0 < i ∧ (S.E 0).off = 52 + 56 * ((i : Int) - 1))
  q1 : (S.E 1).q = []
  t1 : (S.E 1).told = ((h * (j / h) : Nat) : Int)
  v0 : S.V 0 = [m]
  y0 : (S.Y 0).length = j / h
  hd : 0 < j / h → ∃ l ls, S.Y 0 = l :: ls ∧ l.k = 2 ∧ l.a = h
theorem AkT.new {h : Nat} {n : Int} {m : List UInt8} (hn : n = 2 * (h : Int)) : AkT h m 0 0 (enqS (newS n) 0 m) := by
  have hE : (enqS (newS n) 0 m).E 0 = { newL n with q := [] ++ [m] } := enqS_E _ _ _
  have hE1 : (enqS (newS n) 0 m).E 1 = newL n := enqS_E' _ _ (by omega)
  have hV : (enqS (newS n) 0 m).V 0 = [] ++ [m] := enqS_V _ _ _
  refine ⟨?_, ?_, ?_, ?_, ?_, ?_, .inl ⟨rfl, ?_⟩, ?_, ?_, ?_, ?_, fun h => ?_⟩
  · rw [hE]; exact hn
  · rw [hE]; rfl
  · rw [hE]; rfl
  · rw [hE]; rfl
  · rw [hE]; rfl
  · rw [hE]; rfl
  · rw [hE]; rfl
  · rw [hE1]; rfl
  · rw [hE1]; simp [newL]
  · rw [hV]; rfl
  · simp [enqS, newS]
  · simp at h
theorem AkT.go {c h i j : Nat} {m : List UInt8} {S : WrS} (A : AkT h m i j S) (hI : WInv c S) (hi : i < 2 * h) (hh : h ≤ 64) (hm : 52 + 56 * (2 * h) ≤ m.length) (hY : S.Y 1 = []) :
    AkT h m (i + 1) j (trT S 0) ∧ ∃ l, (trT S 0).Y 1 = [l] ∧ l.k = 1 := by
  have hg := hI.g 0 (by omega)
  have hs := vs_yes hg.ve.vs
  have hfr : 0 < fr (S.E 0).n (S.E 0).s (S.E 0).a := by unfold fr; rw [if_pos hg.ve.vs, A.n0, A.s0, A.a0]; omega
  have hgo : nxGo (S.E 0) = true := by unfold nxGo; rw [A.q0, decide_eq_true hfr]; rfl
  have h0 : nxE (S.E 0) = 0 := by unfold nxE; rw [if_pos hg.v, if_pos hgo, if_neg (by rw [A.s0]; omega)]
  have hM : frM (S.E 0) = m := by unfold frM; rw [A.q0]; rfl
  have hS : frS (S.E 0) = 52 + 56 * i := by
    unfold frS
    rw [hM]
    rcases A.o0 with ⟨h1, h2⟩ | ⟨h1, h2⟩
    · rw [if_pos (by omega), h1]; omega
    · rw [if_neg (by omega), h2]; omega
  have hne : nxEnd (S.E 0) = false := by unfold nxEnd; rw [hS, hM, beq_eq_false_iff_ne]; omega
  have e1 : nxL (S.E 0) = { S.E 0 with s := (S.E 0).s + 1, off := (frS (S.E 0) : Int), told := (S.E 0).rc } := by
    unfold nxL
    rw [if_pos h0, if_pos hgo]
    unfold nxG
    rw [hne]
    rfl
  have eT : trT S 0 = trS S 0 := by unfold trT; rw [if_pos h0]
  rw [eT]
  have hE : (trS S 0).E 0 = nxL (S.E 0) := trS_E _ _
  have hE1 : (trS S 0).E 1 = S.E 1 := trS_E' _ (by omega)
  have hY1 : (trS S 0).Y 1 = S.Y 1 ++ [nxn (S.E 0)] := trS_Y _ _
  have hY0 : (trS S 0).Y 0 = S.Y 0 := trS_Y' _ (by omega)
  refine ⟨⟨?_, ?_, ?_, ?_, ?_, ?_, .inr ⟨by omega, ?_⟩, ?_, ?_, A.v0, ?_, ?_⟩, nxn (S.E 0), by rw [hY1, hY]; rfl, by unfold nxn; rw [if_pos hgo]⟩
  · rw [hE, e1]; exact A.n0
  · rw [hE, e1]; exact A.q0
  · rw [hE, e1]; show (S.E 0).s + 1 = _; rw [A.s0]; omega
  · rw [hE, e1]; exact A.a0
  · rw [hE, e1]; exact A.r0
  · rw [hE, e1]; exact A.r0
  · rw [hE, e1]; show (frS (S.E 0) : Int) = _; rw [hS]; omega
  · rw [hE1]; exact A.q1
  · rw [hE1]; exact A.t1
  · rw [hY0]; exact A.y0
  · rw [hY0]; exact A.hd
theorem AkT.de {c h i j : Nat} {m : List UInt8} {S : WrS} (A : AkT h m i j S) (hI : WInv c S) {l : Ln} (hY : S.Y 1 = [l]) :
    AkT h m i j (deT1 S) ∧ (deT1 S).Y 1 = [] := by
  have eT : deT1 S = deS S 1 l [] := by unfold deT1; rw [hY]
  rw [eT]
  have hE : (deS S 1 l []).E 1 = dvG (S.E 1) l.k l.f l.n l.a l.p := deS_E _ _ _ _
  have hE1 : (deS S 1 l []).E 0 = S.E 0 := deS_E' _ _ _ (by omega)
  have hY1 : (deS S 1 l []).Y 1 = [] := deS_Y _ _ _ _
  have hY0 : (deS S 1 l []).Y 0 = S.Y 0 := deS_Y' _ _ _ (by omega)
  obtain ⟨k1, k2, k3, k4, k5, k6, k7⟩ := dv_keep (S.E 1) l
  refine ⟨⟨?_, ?_, ?_, ?_, ?_, ?_, ?_, ?_, ?_, A.v0, ?_, ?_⟩, hY1⟩
  · rw [hE1]; exact A.n0
  · rw [hE1]; exact A.q0
  · rw [hE1]; exact A.s0
  · rw [hE1]; exact A.a0
  · rw [hE1]; exact A.r0
  · rw [hE1]; exact A.t0
  · rw [hE1]; exact A.o0
  · rw [hE, k5]; exact A.q1
  · rw [hE, k7]; exact A.t1
  · rw [hY0]; exact A.y0
  · rw [hY0]; exact A.hd
theorem AkT.got {c h i j : Nat} {m : List UInt8} {S : WrS} (A : AkT h m i j S) (hI : WInv c S) (hY : S.Y 1 = []) : (S.E 1).rc = i ∧ S.T 1 = 0 ∧ (S.E 1).rn = 2 * (h : Int) := by
  have hd := hI.d 0 (by omega)
  obtain ⟨r, hr, hsy⟩ := hd.run
  rw [show 1 - 0 = 1 from rfl] at hr
  rw [hY] at hr
  have hr : rsOf (S.E 1) (S.T 1) = r := hr
  subst hr
  have h1 := hsy.rc
  have h2 := hsy.q
  have h3 : (S.E 1).rc = (S.E 0).s := h1
  have h4 : (S.E 0).q = (S.V 0).drop (S.T 1) := h2
  rw [A.q0, A.v0] at h4
  refine ⟨by rw [h3, A.s0], ?_, ?_⟩
  · have := congrArg List.length h4
    simp at this
    omega
  · have := hd.same
    rw [A.n0] at this
    exact this.symm
theorem div_up {h i : Nat} (hh : 1 ≤ h) (h1 : h ≤ i + 1 - h * (i / h)) : (i + 1) / h = i / h + 1 := by
  have h2 := Nat.div_add_mod i h
  have h3 := Nat.mod_lt i hh
  have : i + 1 = h * (i / h + 1) := by rw [Nat.mul_add]; omega
  rw [this, Nat.mul_div_cancel_left _ hh]
theorem div_no {h i : Nat} (hh : 1 ≤ h) (h1 : ¬ h ≤ i + 1 - h * (i / h)) : (i + 1) / h = i / h := by
  have h2 := Nat.div_add_mod i h
  have h3 := Nat.mod_lt i hh
  obtain ⟨q, hq⟩ : ∃ q, i / h = q := ⟨_, rfl⟩
  rw [hq] at h1 h2 ⊢
  obtain ⟨r, hr⟩ : ∃ r, i + 1 = h * q + r := ⟨i + 1 - h * q, by omega⟩
  rw [hr, Nat.mul_add_div hh, Nat.div_eq_of_lt (by omega)]
  omega
theorem AkT.ack {c h i : Nat} {m : List UInt8} {S : WrS} (A : AkT h m (i + 1) i S) (hI : WInv c S) (h1 : 1 ≤ h) (hh : h ≤ 64) (hi : i < 2 * h) (hY : S.Y 1 = []) :
    AkT h m (i + 1) (i + 1) (trT S 1) ∧ (trT S 1).Y 1 = [] := by
  obtain ⟨hrc, hT, hrn⟩ := A.got hI hY
  have hg := hI.g 1 (by omega)
  have hgo : nxGo (S.E 1) = false := by unfold nxGo; rw [A.q1]; rfl
  have hdm := Nat.div_add_mod i h
  have hml := Nat.mod_lt i h1
  by_cases hk : h ≤ i + 1 - h * (i / h)
  · have hdu := div_up h1 hk
    have h0 : nxE (S.E 1) = 0 := by unfold nxE; rw [if_pos hg.v, hgo, if_neg (by simp), if_pos (by rw [hrn, hrc, A.t1]; omega)]
    have e1 : nxL (S.E 1) = { S.E 1 with told := (S.E 1).rc } := by
      unfold nxL
      rw [if_pos h0, hgo]
      rfl
    have eT : trT S 1 = trS S 1 := by unfold trT; rw [if_pos h0]
    rw [eT]
    have hE : (trS S 1).E 1 = nxL (S.E 1) := trS_E _ _
    have hE1 : (trS S 1).E 0 = S.E 0 := trS_E' _ (by omega)
    have hY1 : (trS S 1).Y 0 = S.Y 0 ++ [nxn (S.E 1)] := trS_Y _ _
    have hY0 : (trS S 1).Y 1 = S.Y 1 := trS_Y' _ (by omega)
    have e2 : nxn (S.E 1) = ⟨2, false, false, 0, acN (S.E 1).rn (S.E 1).rc, z56⟩ := by unfold nxn; rw [hgo]; rfl
    refine ⟨⟨?_, ?_, ?_, ?_, ?_, ?_, ?_, ?_, ?_, A.v0, ?_, ?_⟩, by rw [hY0, hY]⟩
    · rw [hE1]; exact A.n0
    · rw [hE1]; exact A.q0
    · rw [hE1]; exact A.s0
    · rw [hE1]; exact A.a0
    · rw [hE1]; exact A.r0
    · rw [hE1]; exact A.t0
    · rw [hE1]; exact A.o0
    · rw [hE, e1]; exact A.q1
    · rw [hE, e1]
      show (S.E 1).rc = _
      rw [hrc, hdu, Nat.mul_add]
      omega
    · rw [hY1, List.length_append, A.y0, hdu]; rfl
    · intro _
      rcases Nat.eq_zero_or_pos (i / h) with hz | hz
      · have hyl := A.y0
        rw [hz] at hyl
        refine ⟨nxn (S.E 1), [], by rw [hY1, List.eq_nil_of_length_eq_zero hyl]; rfl, by rw [e2], ?_⟩
        rw [e2]
        show acN (S.E 1).rn (S.E 1).rc = h
        unfold acN
        rw [if_pos hg.ve.vr, IntKind.wrap_u16, hrc]
        rw [hz, Nat.mul_zero] at hk hdm
        omega
      · obtain ⟨l, ls, hl, h2, h3⟩ := A.hd hz
        exact ⟨l, ls ++ [nxn (S.E 1)], by rw [hY1, hl]; rfl, h2, h3⟩
  · have hdn := div_no h1 hk
    have h0 : nxE (S.E 1) = 17 := by unfold nxE; rw [if_pos hg.v, hgo, if_neg (by simp), if_neg (by rw [hrn, hrc, A.t1]; omega)]
    have eT : trT S 1 = S := by unfold trT; rw [if_neg (by omega)]
    rw [eT]
    exact ⟨⟨A.n0, A.q0, A.s0, A.a0, A.r0, A.t0, A.o0, A.q1, by rw [hdn]; exact A.t1, A.v0, by rw [hdn]; exact A.y0, by rw [hdn]; exact A.hd⟩, hY⟩
/-- The ring is full: nothing is sent. -/
theorem AkT.stop {c h j : Nat} {m : List UInt8} {S : WrS} (A : AkT h m (2 * h) j S) (hI : WInv c S) (h1 : 1 ≤ h) : trT S 0 = S := by
  have hg := hI.g 0 (by omega)
  have hfr : fr (S.E 0).n (S.E 0).s (S.E 0).a = 0 := by unfold fr; rw [if_pos hg.ve.vs, A.n0, A.s0, A.a0]; omega
  have hgo : nxGo (S.E 0) = false := by unfold nxGo; rw [hfr]; simp
  have hrn := hg.ve.same
  have h0 : nxE (S.E 0) = 17 := by unfold nxE; rw [if_pos hg.v, hgo, if_neg (by simp), if_neg (by rw [← hrn, A.n0, A.r0, A.t0]; omega)]
  unfold trT
  rw [if_neg (by omega)]
/-- Behind an acknowledgement one more line goes. -/
theorem AkT.on {c h j : Nat} {m : List UInt8} {S : WrS} (A : AkT h m (2 * h) j S) (hI : WInv c S) (hc : c ≤ 100000) (h1 : 1 ≤ h) (hh : h ≤ 64) (hY : S.Y 1 = []) (hj : 0 < j / h) :
    ((trT (deT0 S) 0).Y 1).length = 1 ∧ (trT (deT0 S) 0).T 1 = S.T 1 := by
  obtain ⟨l, ls, hY0, hk, ha⟩ := A.hd hj
  have eT : deT0 S = deS S 0 l ls := by unfold deT0; rw [hY0]
  rw [eT]
  have hE : (deS S 0 l ls).E 0 = dvG (S.E 0) l.k l.f l.n l.a l.p := deS_E _ _ _ _
  have hE1 : (deS S 0 l ls).E 1 = S.E 1 := deS_E' _ _ _ (by omega)
  have hY1 : (deS S 0 l ls).Y 1 = S.Y 1 := deS_Y' _ _ _ (by omega)
  have hT1 : (deS S 0 l ls).T 1 = S.T 1 := deS_T' _ _ _ (by omega)
  obtain ⟨k1, k2, k3, k4, k5, k6, k7⟩ := dv_keep (S.E 0) l
  have hI2 := hI.de (s := 0) (by omega) (by omega) hY0
  have hg := hI2.g 0 (by omega)
  have hmv : mv l.a (S.E 0).a = h := by rw [ha, A.a0]; unfold mv; omega
  have hfr : 0 < fr ((deS S 0 l ls).E 0).n ((deS S 0 l ls).E 0).s ((deS S 0 l ls).E 0).a := by
    unfold fr
    rw [if_pos hg.ve.vs, hE, k1, k2, k3, A.n0, A.s0, hmv, A.a0]
    omega
  have hgo : nxGo ((deS S 0 l ls).E 0) = true := by unfold nxGo; rw [decide_eq_true hfr, hE, k5, A.q0]; rfl
  have h0 : nxE ((deS S 0 l ls).E 0) = 0 := by unfold nxE; rw [if_pos hg.v, if_pos hgo, if_neg (by rw [hE, k2, A.s0]; omega)]
  have e2 : trT (deS S 0 l ls) 0 = trS (deS S 0 l ls) 0 := by unfold trT; rw [if_pos h0]
  rw [e2]
  have hY2 : (trS (deS S 0 l ls) 0).Y 1 = (deS S 0 l ls).Y 1 ++ [nxn ((deS S 0 l ls).E 0)] := trS_Y _ _
  exact ⟨by rw [hY2, hY1, hY]; rfl, hT1⟩
end Go.Proofs.Ythjkhambmgepdaa
