/- Texts Ka Kb Tr Kc Kf Vo, without what this claim does not use. -/
import Derived.Lib.Hide
import Derived.Deep.RegionHeld3
import Derived.Deep.Fields
import Derived.Deep.SlicePairs
import Derived.Lib.SmallJoins
import Derived.OpenShut
import Derived.Deep.CutBlock
import Derived.Deep.CutRange
import Derived.Test.YthjkhambmgepdaaQap
import Derived.Test.YthjkhambmgepdaaQba
namespace Go.Proofs.Ythjkhambmgepdaa
section
open Go.RowKit
set_option linter.unusedVariables false
structure JI (N : Int) (c k : Nat) (U : UcS) (F : Nat → List RM) (Z : Nat → List (List UInt8)) (L : WrS) : Prop where
  u : UInv N c U
  r : RelF U F Z
  l : WInv k L
  f : ∀ s, s < 2 → (F s).map RM.by = (L.V (1 - s)).drop (L.T s)
def upots (U : UcS) : Nat := U.pot 0 + U.pot 1
def jp (U : UcS) (Z : Nat → List (List UInt8)) (L : WrS) : Nat := 6 * upots U + 5 * ((Z 0).length + (Z 1).length) + pot L
theorem upots_s (U : UcS) {s : Nat} (hs : s < 2) : upots U = U.pot s + U.pot (1 - s) := by
  unfold upots
  rcases (show s = 0 ∨ s = 1 by omega) with rfl | rfl
  · rfl
  · rw [Nat.add_comm]
theorem zs_s (Z : Nat → List (List UInt8)) {s : Nat} (hs : s < 2) : (Z 0).length + (Z 1).length = (Z s).length + (Z (1 - s)).length := by
  rcases (show s = 0 ∨ s = 1 by omega) with rfl | rfl
  · rfl
  · rw [Nat.add_comm]
theorem msg52 {N : Int} {c : Nat} {S : UcS} (h : UInv N c S) {s : Nat} (hs : s < 2) {m : RM} (hm : m ∈ S.Y s) : m.by.length ≤ 52 := by
  have hk := RM.ok_iff.1 (MsgOk.isOk h hs hm)
  have hb : m.b.length = 2 := by
    obtain ⟨k, v, h1 | h1⟩ := (h.sd hs).msg m hm <;> rw [h1.2] <;> exact wdB_len v
  have k1 := uB_small m.k.toNat (by have := hk.k; omega)
  have k2 := uB_small m.n.toNat (by have := hk.n1; omega)
  have k3 := uB_small m.d.toNat (by have := hk.d; omega)
  have k4 := uB_small m.b.length (by omega)
  unfold RM.by
  simp only [List.length_append]
  omega
theorem cntF1 {n : Nat} (h : n ≤ 52) : cntF n (-1) = 1 := by
  unfold cntF
  rw [if_pos (by omega)]
  omega
theorem pot_enq {c : Nat} {S : WrS} (h : WInv c S) {s : Nat} (hs : s < 2) {m : List UInt8} (hm : m.length ≤ 52) : pot (enqS S s m) = pot S + 4 := by
  obtain ⟨a, b, e⟩ := one_sub hs
  have hE : (enqS S s m).E s = { S.E s with q := (S.E s).q ++ [m] } := upd_self _ _ _
  have hE1 : (enqS S s m).E (1 - s) = S.E (1 - s) := upd_other e
  have hu := uns_enq (S.E s) (h.g s hs) m
  rw [cntF1 hm] at hu
  rw [pot_sym _ s hs, pot_sym S s hs, hE, hE1]
  have hY : (enqS S s m).Y = S.Y := rfl
  rw [hY]
  unfold potD
  rw [hu]
  have e1 : ({ S.E s with q := (S.E s).q ++ [m] } : LE).s = (S.E s).s := rfl
  have e2 : ({ S.E s with q := (S.E s).q ++ [m] } : LE).told = (S.E s).told := rfl
  rw [e1, e2]
  omega
theorem RelF.zeq {U : UcS} {F : Nat → List RM} {Z Z' : Nat → List (List UInt8)} (h : RelF U F Z) (h' : RelF U F Z') : ∀ t, t < 2 → Z' t = Z t := fun t ht => by
  obtain ⟨ms, e1, e2⟩ := h t ht
  obtain ⟨ms', e3, e4⟩ := h' t ht
  rw [e1] at e3
  rw [e2, e4, List.append_cancel_left e3]
theorem jp_z {U : UcS} {Z Z' : Nat → List (List UInt8)} {L : WrS} (h : ∀ t, t < 2 → Z' t = Z t) : jp U Z' L = jp U Z L := by
  unfold jp
  rw [h 0 (by omega), h 1 (by omega)]
section
variable {N : Int} {c k : Nat} {U : UcS} {F : Nat → List RM} {Z : Nat → List (List UInt8)} {L : WrS} {s : Nat}
theorem JI.enq (h : JI N c k U F Z L) (hs : s < 2) {z : List UInt8} {zs : List (List UInt8)} (hz : Z (1 - s) = z :: zs) (hq : (L.E s).q.length < 64) :
    z.length ≤ 52 ∧ ∃ F', JI N c (k + 1) U F' (upd Z (1 - s) zs) (enqS L s z) ∧ jp U (upd Z (1 - s) zs) (enqS L s z) < jp U Z L := by
  obtain ⟨a, b, e⟩ := one_sub hs
  obtain ⟨ms, hY, hZ⟩ := h.r (1 - s) a
  rw [hz] at hZ
  obtain ⟨m, ms, rfl⟩ : ∃ m ms', ms = m :: ms' := by
    cases ms with
    | nil => cases hZ
    | cons m ms' => exact ⟨m, ms', rfl⟩
  rw [List.map_cons] at hZ
  injection hZ with hz1 hz2
  have hl : z.length ≤ 52 := by
    rw [hz1]
    exact msg52 h.u a (by rw [hY]; simp)
  refine ⟨hl, upd F (1 - s) (F (1 - s) ++ [m]), ⟨h.u, fun t ht => ?_, h.l.enq hs hq (by omega) (by rw [cntF1 hl]; omega) (Nat.le_refl _), fun t ht => ?_⟩, ?_⟩
  · by_cases et : t = 1 - s
    · subst et
      refine ⟨ms, ?_, ?_⟩
      · rw [upd_self, hY, List.append_assoc]; rfl
      · rw [upd_self]; exact hz2
    · obtain ⟨ms', h1, h2⟩ := h.r t ht
      exact ⟨ms', by rw [upd_other et]; exact h1, by rw [upd_other et]; exact h2⟩
  · by_cases et : t = 1 - s
    · subst et
      have hT := h.l.bT a
      have hf := h.f (1 - s) a
      rw [b] at hT hf ⊢
      have hV : (enqS L s z).V s = L.V s ++ [z] := upd_self _ _ _
      have hT' : (enqS L s z).T (1 - s) = L.T (1 - s) := rfl
      rw [upd_self, hV, hT', List.map_append, hf, List.drop_append_of_le_length hT, List.map_cons, List.map_nil, ← hz1]
    · have hf := h.f t ht
      have ht1 : 1 - t ≠ s := by omega
      have hV : (enqS L s z).V (1 - t) = L.V (1 - t) := upd_other ht1
      have hT' : (enqS L s z).T t = L.T t := rfl
      rw [upd_other et, hV, hT']
      exact hf
  · have hp := pot_enq h.l hs hl
    unfold jp
    rw [hp, zs_s _ hs, zs_s Z hs, upd_self, upd_other (show s ≠ 1 - s by omega), hz, List.length_cons]
    omega
theorem JI.tr (h : JI N c k U F Z L) (hs : s < 2) (h0 : nxE (L.E s) = 0) : JI N c (k + 1) U F Z (trS L s) ∧ jp U Z (trS L s) < jp U Z L := by
  refine ⟨⟨h.u, h.r, h.l.tr hs h0, fun t ht => h.f t ht⟩, ?_⟩
  have := pot_tr h.l hs h0
  unfold jp
  omega
theorem JI.de0 (h : JI N c k U F Z L) (hk : k < 4611686018427387904) (hs : s < 2) {l : Ln} {ls : List Ln} (hY : L.Y s = l :: ls) (hC : dvC (L.E s) l.k l.f l.n l.p = false) : JI N c k U F Z (deS L s l ls) ∧ jp U Z (deS L s l ls) < jp U Z L := by
  have hT : (deS L s l ls).T = L.T := by
    funext t
    by_cases e : t = s
    · subst e
      show upd L.T t (tkN (L.E t) l (L.T t)) t = _
      rw [upd_self]
      unfold tkN
      rw [hC]; rfl
    · exact upd_other e
  refine ⟨⟨h.u, h.r, h.l.de hk hs hY, fun t ht => ?_⟩, ?_⟩
  · rw [hT]; exact h.f t ht
  · have := pot_de hs hY
    unfold jp
    omega
theorem JI.de1 (h : JI N c k U F Z L) (hk : k < 4611686018427387904) (hs : s < 2) {l : Ln} {ls : List Ln} (hY : L.Y s = l :: ls) (hC : dvC (L.E s) l.k l.f l.n l.p = true) :
    ∃ m Fs ys, F s = m :: Fs ∧ dvM (L.E s) l.k l.f l.n l.p = m.by ∧ U.Y s = m :: ys ∧ RelF { U with Y := upd U.Y s ys } (upd F s Fs) Z ∧
      ∀ U' Z', U' = rcvS U s m ys → UInv N c U' → RelF U' (upd F s Fs) Z' → JI N c k U' (upd F s Fs) Z' (deS L s l ls) ∧ jp U' Z' (deS L s l ls) < jp U Z L ∧ upots U' < upots U := by
  have tk := h.l.takes hk hs hY
  have hm := tk.m hC
  have hf := h.f s hs
  have hlt : L.T s < (L.V (1 - s)).length := (List.getElem?_eq_some_iff.1 hm).1
  have hg : (L.V (1 - s))[L.T s] = dvM (L.E s) l.k l.f l.n l.p := (List.getElem?_eq_some_iff.1 hm).2
  rw [List.drop_eq_getElem_cons hlt, hg] at hf
  obtain ⟨m, Fs, hF⟩ : ∃ m Fs, F s = m :: Fs := by
    cases hF : F s with
    | nil => rw [hF] at hf; cases hf
    | cons m Fs => exact ⟨m, Fs, rfl⟩
  rw [hF, List.map_cons] at hf
  injection hf with hf1 hf2
  obtain ⟨ms, hU, hZ⟩ := h.r s hs
  rw [hF] at hU
  have hU : U.Y s = m :: (Fs ++ ms) := hU
  have hR0 : RelF { U with Y := upd U.Y s (Fs ++ ms) } (upd F s Fs) Z := fun t ht => by
    by_cases e : t = s
    · subst e
      exact ⟨ms, by show upd U.Y t (Fs ++ ms) t = _; rw [upd_self, upd_self], hZ⟩
    · obtain ⟨ms', h1, h2⟩ := h.r t ht
      exact ⟨ms', by show upd U.Y s (Fs ++ ms) t = _; rw [upd_other e, upd_other e]; exact h1, h2⟩
  have hR1 : RelF (rcvS U s m (Fs ++ ms)) (upd F s Fs) Z := fun t ht => by
    have h1 := hR0 t ht
    unfold rcvS
    split <;> exact h1
  refine ⟨m, Fs, Fs ++ ms, hF, hf1.symm, hU, hR0, fun U' Z' hU' hI hR => ⟨⟨hI, hR, h.l.de hk hs hY, fun t ht => ?_⟩, ?_, ?_⟩⟩
  · by_cases e : t = s
    · subst e
      have hT : (deS L t l ls).T t = L.T t + 1 := by
        show upd L.T t (tkN (L.E t) l (L.T t)) t = _
        rw [upd_self]
        unfold tkN
        rw [if_pos hC]
      rw [upd_self, hT]
      exact hf2
    · have hT : (deS L s l ls).T t = L.T t := upd_other e
      rw [upd_other e, hT]
      exact h.f t ht
  · have hp := pot_de hs hY
    obtain ⟨p1, p2⟩ := uc_pot_rcv hs hU
    rw [jp_z ((hU' ▸ hR1 : RelF U' (upd F s Fs) Z).zeq hR)]
    unfold jp
    rw [upots_s U' hs, upots_s U hs, hU', p2]
    omega
  · obtain ⟨p1, p2⟩ := uc_pot_rcv hs hU
    rw [upots_s U' hs, upots_s U hs, hU', p2]
    omega
theorem RelF.zl (hR : RelF U F Z) (hs : s < 2) : (U.Y s).length = (F s).length + (Z s).length := by
  obtain ⟨ms, h1, h2⟩ := hR s hs
  rw [h1, h2, List.length_append, List.length_map]
theorem JI.rep (h : JI N c k U F Z L) (hs : s < 2) {U' : UcS} {Z' : Nat → List (List UInt8)} {n v : Int} (hn : n ∈ (U.E s).ss) (hU : U' = repS U s n v) (hI : UInv N c U') (hR : RelF U' F Z') : JI N c k U' F Z' L ∧ jp U' Z' L < jp U Z L ∧ upots U' < upots U := by
  obtain ⟨a, b, e⟩ := one_sub hs
  refine ⟨⟨hI, hR, h.l, h.f⟩, ?_⟩
  obtain ⟨p1, p2⟩ := uc_pot_rep (v := v) hs hn
  have z1 := h.r.zl hs
  have z2 := h.r.zl a
  have z3 := hR.zl hs
  have z4 := hR.zl a
  have y1 : U'.Y s = U.Y s := by rw [hU]; exact upd_other (by omega)
  have y2 : (U'.Y (1 - s)).length = (U.Y (1 - s)).length + 1 := by
    rw [hU]
    show (upd U.Y (1 - s) _ (1 - s)).length = _
    rw [upd_self, List.length_append]; rfl
  rw [y1] at z3
  unfold jp
  rw [upots_s U' hs, upots_s U hs, zs_s Z' hs, zs_s Z hs, hU] at *
  omega
theorem JI.call (h : JI N c k U F Z L) (hs : s < 2) {U' : UcS} {Z' : Nat → List (List UInt8)} {v : Int} (hU : U' = callS U s v) (hI : UInv N (c + 1) U') (hR : RelF U' F Z') : JI N (c + 1) k U' F Z' L ∧ jp U' Z' L ≤ jp U Z L + 23 := by
  obtain ⟨a, b, e⟩ := one_sub hs
  refine ⟨⟨hI, hR, h.l, h.f⟩, ?_⟩
  have z1 := h.r.zl hs
  have z2 := h.r.zl a
  have z3 := hR.zl hs
  have z4 := hR.zl a
  have y1 : U'.Y s = U.Y s := by rw [hU]; exact upd_other (by omega)
  have y2 : U'.Y (1 - s) = U.Y (1 - s) ++ [rqM ((U.E s).la + 1) v (wdB v)] := by
    rw [hU]
    exact upd_self _ _ _
  have y3 : (U'.Y (1 - s)).length = (U.Y (1 - s)).length + 1 := by rw [y2, List.length_append]; rfl
  have e1 : (U'.E s).ss = (U.E s).ss := by
    rw [hU]
    show (upd U.E s (calU (U.E s)) s).ss = _
    rw [upd_self]; rfl
  have e2 : (U'.E (1 - s)).ss = (U.E (1 - s)).ss := by
    rw [hU]
    show (upd U.E s (calU (U.E s)) (1 - s)).ss = _
    rw [upd_other e]
  have r1 : (reqN (U'.Y (1 - s))).length = (reqN (U.Y (1 - s))).length + 1 := by rw [y2, reqN_app, List.length_append]; rfl
  have r2 : (repN (U'.Y (1 - s))).length = (repN (U.Y (1 - s))).length := by rw [y2, repN_app, List.length_append]; rfl
  rw [y1] at z3
  have q1 : U'.pot s = U.pot s := by unfold UcS.pot; rw [y1, e1]
  have q2 : U'.pot (1 - s) = U.pot (1 - s) + 3 := by unfold UcS.pot; rw [r1, r2, e2]; omega
  unfold jp
  rw [upots_s U' hs, upots_s U hs, zs_s Z' hs, zs_s Z hs, q1, q2]
  omega
theorem JI.more {c' k' : Nat} (h : JI N c k U F Z L) (hc : c ≤ c') (hc2 : c' ≤ 1000000) (hk : k ≤ k') : JI N c' k' U F Z L := ⟨h.u.more hc hc2, h.r, h.l.mono hk, h.f⟩
end
structure IdleAt (U : UcS) (Z : Nat → List (List UInt8)) (L : WrS) (s : Nat) : Prop where
  ss : (U.E s).ss = []
  nx : nxE (L.E s) = 17
  ys : L.Y s = []
  z : Z (1 - s) = [] ∨ (L.E s).q.length = 64
theorem JI.still {N : Int} {c k : Nat} {U : UcS} {F : Nat → List RM} {Z : Nat → List (List UInt8)} {L : WrS} (h : JI N c k U F Z L) (h0 : IdleAt U Z L 0) (h1 : IdleAt U Z L 1) : upots U = 0 := by
  have hy : ∀ s, s < 2 → L.Y s = [] := fun s hs => by
    rcases (show s = 0 ∨ s = 1 by omega) with rfl | rfl
    · exact h0.ys
    · exact h1.ys
  have hn : ∀ s, s < 2 → nxE (L.E s) = 17 := fun s hs => by
    rcases (show s = 0 ∨ s = 1 by omega) with rfl | rfl
    · exact h0.nx
    · exact h1.nx
  have hq : ∀ s, s < 2 → (L.E s).q = [] := fun s hs => Go.Proofs.Ythjkhambmgepdaa.still h.l hn hy hs
  have hY : ∀ s, s < 2 → U.Y s = [] := fun s hs => by
    have hc := (all_come h.l hy hq hs).1
    have hf := h.f s hs
    rw [hc, List.drop_length] at hf
    have hF : F s = [] := List.map_eq_nil_iff.1 hf
    have hZ : Z s = [] := by
      rcases (show s = 0 ∨ s = 1 by omega) with rfl | rfl
      · rcases h1.z with h2 | h2
        · exact h2
        · rw [hq 1 (by omega)] at h2; cases h2
      · rcases h0.z with h2 | h2
        · exact h2
        · rw [hq 0 (by omega)] at h2; cases h2
    obtain ⟨ms, e1, e2⟩ := h.r s hs
    rw [hZ] at e2
    have : ms = [] := List.map_eq_nil_iff.1 e2.symm
    rw [e1, hF, this]; rfl
  unfold upots UcS.pot
  rw [hY 0 (by omega), hY 1 (by omega), h0.ss, h1.ss]
  rfl
structure FallA (U : UcS) (Z : Nat → List (List UInt8)) (L : WrS) (s : Nat) (U' : UcS) (Z' : Nat → List (List UInt8)) (L' : WrS) (ph : Nat) : Prop where
  pots : upots U' ≤ upots U
  j : jp U' Z' L' ≤ jp U Z L
  i : jp U' Z' L' = jp U Z L → U' = U ∧ (∀ t, t < 2 → Z' t = Z t) ∧ L' = L ∧ (1 ≤ ph → (U.E s).ss = []) ∧ (2 ≤ ph → Z (1 - s) = [] ∨ (L.E s).q.length = 64) ∧ (3 ≤ ph → nxE (L.E s) = 17) ∧ (4 ≤ ph → L.Y s = [])
section
variable {U U1 U2 : UcS} {Z Z1 Z2 : Nat → List (List UInt8)} {L L1 L2 : WrS} {s ph r : Nat}
theorem FallA.go (h : FallA U Z L s U1 Z1 L1 ph) (h1 : upots U2 ≤ upots U1) (h2 : jp U2 Z2 L2 < jp U1 Z1 L1) (ph' : Nat) : FallA U Z L s U2 Z2 L2 ph' := by
  have a := h.pots
  have b := h.j
  exact ⟨by omega, by omega, fun e => by omega⟩
theorem FallA.to2 (h : FallA U Z L s U1 Z1 L1 1) (hs : s < 2) (hz : Z1 (1 - s) = [] ∨ (L1.E s).q.length = 64) : FallA U Z L s U1 Z1 L1 2 := ⟨h.pots, h.j, fun e => by
  obtain ⟨e1, e2, e3, e4, -⟩ := h.i e
  refine ⟨e1, e2, e3, fun _ => e4 (by omega), fun _ => ?_, fun h => by omega, fun h => by omega⟩
  rw [← e2 _ (show 1 - s < 2 by omega), ← e3]
  exact hz⟩
theorem FallA.to3 (h : FallA U Z L s U1 Z1 L1 2) (hn : nxE (L1.E s) = 17) : FallA U Z L s U1 Z1 L1 3 := ⟨h.pots, h.j, fun e => by
  obtain ⟨e1, e2, e3, e4, e5, -⟩ := h.i e
  exact ⟨e1, e2, e3, fun _ => e4 (by omega), fun _ => e5 (by omega), fun _ => by rw [← e3]; exact hn, fun h => by omega⟩⟩
theorem FallA.to4 (h : FallA U Z L s U1 Z1 L1 3) (hn : L1.Y s = []) : FallA U Z L s U1 Z1 L1 4 := ⟨h.pots, h.j, fun e => by
  obtain ⟨e1, e2, e3, e4, e5, e6, -⟩ := h.i e
  exact ⟨e1, e2, e3, fun _ => e4 (by omega), fun _ => e5 (by omega), fun _ => e6 (by omega), fun _ => by rw [← e3]; exact hn⟩⟩
def Late60 (U : UcS) (Z : Nat → List (List UInt8)) (L : WrS) (r : Nat) : Prop := upots U = 0 ∨ jp U Z L + r ≤ 1380
theorem Late60.round {N : Int} {c k : Nat} {F : Nat → List RM} (hJ : JI N c k U2 F Z2 L2) (h : Late60 U Z L r) (f0 : FallA U Z L 0 U1 Z1 L1 4) (f1 : FallA U1 Z1 L1 1 U2 Z2 L2 4) : Late60 U2 Z2 L2 (r + 1) := by
  have a1 := f0.pots
  have a2 := f1.pots
  have b1 := f0.j
  have b2 := f1.j
  rcases h with h | h
  · left; omega
  · by_cases e : jp U2 Z2 L2 = jp U Z L
    · obtain ⟨r1, r2, r3, i1, i2, i3, i4⟩ := f0.i (by omega)
      obtain ⟨t1, t2, t3, j1, j2, j3, j4⟩ := f1.i (by omega)
      left
      refine hJ.still ⟨?_, ?_, ?_, ?_⟩ ⟨?_, ?_, ?_, ?_⟩
      · rw [t1, r1]; exact i1 (by omega)
      · rw [t3, r3]; exact i3 (by omega)
      · rw [t3, r3]; exact i4 (by omega)
      · rw [t2 _ (by omega), r2 _ (by omega), t3, r3]; exact i2 (by omega)
      · rw [t1]; exact j1 (by omega)
      · rw [t3]; exact j3 (by omega)
      · rw [t3]; exact j4 (by omega)
      · rw [t2 _ (by omega), t3]; exact j2 (by omega)
    · right; omega
theorem Late60.done (h : Late60 U Z L 1500) : upots U = 0 := by
  rcases h with h | h
  · exact h
  · omega
end
def Prog (i : Nat) (U : UcS) (Z : Nat → List (List UInt8)) (L : WrS) : Prop :=
  (i ≤ 60 ∧ jp U Z L ≤ 23 * i) ∨ (∃ r, i = 60 + 2 * r ∧ Late60 U Z L r) ∨ (∃ r U0 Z0 L0, i = 61 + 2 * r ∧ Late60 U0 Z0 L0 r ∧ FallA U0 Z0 L0 0 U Z L 4)
def MProg (i s ph : Nat) (U : UcS) (Z : Nat → List (List UInt8)) (L : WrS) : Prop :=
  (i < 60 ∧ jp U Z L ≤ 23 * (i + 1)) ∨ (60 ≤ i ∧ s = i % 2 ∧ ∃ U0 Z0 L0, Prog i U0 Z0 L0 ∧ FallA U0 Z0 L0 s U Z L ph)
section
variable {U U1 U2 : UcS} {Z Z1 Z2 : Nat → List (List UInt8)} {L L1 L2 : WrS} {i s ph r : Nat}
theorem MProg.go (h : MProg i s ph U1 Z1 L1) (h1 : upots U2 ≤ upots U1) (h2 : jp U2 Z2 L2 < jp U1 Z1 L1) (ph' : Nat) : MProg i s ph' U2 Z2 L2 := by
  rcases h with ⟨a, b⟩ | ⟨a, b, U0, Z0, L0, c, d⟩
  · exact .inl ⟨a, by omega⟩
  · exact .inr ⟨a, b, U0, Z0, L0, c, d.go h1 h2 ph'⟩
theorem MProg.to2 (h : MProg i s 1 U1 Z1 L1) (hs : s < 2) (hz : Z1 (1 - s) = [] ∨ (L1.E s).q.length = 64) : MProg i s 2 U1 Z1 L1 := by
  rcases h with h | ⟨a, b, U0, Z0, L0, c, d⟩
  · exact .inl h
  · exact .inr ⟨a, b, U0, Z0, L0, c, d.to2 hs hz⟩
theorem MProg.to3 (h : MProg i s 2 U1 Z1 L1) (hn : nxE (L1.E s) = 17) : MProg i s 3 U1 Z1 L1 := by
  rcases h with h | ⟨a, b, U0, Z0, L0, c, d⟩
  · exact .inl h
  · exact .inr ⟨a, b, U0, Z0, L0, c, d.to3 hn⟩
theorem MProg.to4 (h : MProg i s 3 U1 Z1 L1) (hn : L1.Y s = []) : MProg i s 4 U1 Z1 L1 := by
  rcases h with h | ⟨a, b, U0, Z0, L0, c, d⟩
  · exact .inl h
  · exact .inr ⟨a, b, U0, Z0, L0, c, d.to4 hn⟩
theorem MProg.start (h60 : 60 ≤ i) (hs : s = i % 2) (h : Prog i U Z L) (f : FallA U Z L s U1 Z1 L1 1) : MProg i s 1 U1 Z1 L1 := .inr ⟨h60, hs, U, Z, L, h, f⟩
theorem MProg.fin {N : Int} {c k : Nat} {F : Nat → List RM} (hJ : JI N c k U F Z L) (h : MProg i s 4 U Z L) : Prog (i + 1) U Z L := by
  rcases h with ⟨a, b⟩ | ⟨a, b, U0, Z0, L0, h, f⟩
  · exact .inl ⟨by omega, b⟩
  · rcases h with ⟨h1, h2⟩ | ⟨r, h1, h2⟩ | ⟨r, U9, Z9, L9, h1, h2, h3⟩
    · have hs : s = 0 := by omega
      subst hs
      exact .inr (.inr ⟨0, U0, Z0, L0, by omega, .inr (by omega), f⟩)
    · have hs : s = 0 := by omega
      subst hs
      exact .inr (.inr ⟨r, U0, Z0, L0, by omega, h2, f⟩)
    · have hs : s = 1 := by omega
      subst hs
      exact .inr (.inl ⟨r + 1, by omega, Late60.round hJ h2 h3 f⟩)
theorem Prog.done (h : Prog 3060 U Z L) : upots U = 0 := by
  rcases h with ⟨h1, h2⟩ | ⟨r, h1, h2⟩ | ⟨r, U9, Z9, L9, h1, h2, h3⟩
  · omega
  · obtain rfl : r = 1500 := by omega
    exact h2.done
  · omega
end
end
section
open Go.RowKit
set_option linter.unusedVariables false
set_option linter.unusedSimpArgs false
def NumC (A : Option Addr) (n c k : Nat) : Array Value := #[.slice A n c, .int .i64 (k : Int)]
def NuP (g : Nat) (A : Option Addr) (n c k m : Nat) (W : World) (en : Ending) (W' : World) : Prop := ∃ v : Nat, v < m ∧ en = .returned (.int .i64 (v : Int)) ∧ Row W' g 134 (NumC A n c (k + 1)) ∧ Upd W W' g
theorem tdivK (a b : Nat) : (a : Int).tdiv (b : Int) = ((a / b : Nat) : Int) := by rw [Int.tdiv_eq_ediv_of_nonneg (by omega)]; omega
theorem tmodK (a b : Nat) : (a : Int).tmod (b : Int) = ((a % b : Nat) : Int) := by rw [Int.tmod_eq_emod_of_nonneg (by omega)]; omega
theorem nu_mk {g : Nat} {A : Option Addr} {n c k m : Nat} {W w : World} (hR : Row W g 134 (NumC A n c k)) {x : Int} {v : Nat} (hx : x = (k : Int) + 1) (hv : v < m) (e : w.heap = (W.setCell ⟨g, 1, none⟩ (.int .i64 x)).heap) (e1 : w.os = W.os) (e2 : w.tape = W.tape) (e3 : w.output = W.output) : NuP g A n c k m W (.returned (.int .i64 (v : Int))) w := by
  subst hx
  have u := Upd.setCell W g 1 (.int .i64 ((k : Int) + 1))
  refine ⟨v, hv, rfl, ?_, e1, e2, e3, by rw [e]; exact u.size, fun j hj => by rw [e]; exact u.block j hj⟩
  have h := hR.set 1 (.int .i64 ((k : Int) + 1))
  unfold Row at h ⊢
  rw [e, h]
  unfold NumC
  simp
set_option maxRecDepth 100000 in
set_option maxHeartbeats 8000000 in
theorem num_nil (A : Option Addr) (c g k m : Nat) (W : World) (hR : Row W g 134 (NumC A 0 c k)) (hk : k ≤ 1000000) (hm : 1 ≤ m) (hm2 : m ≤ 1000000) : Calls Try.prog 86 #[.pointer (some ⟨g, 0, none⟩), .int .i64 (m : Int)] W (NuP g A 0 c k m W) := by
  have x0 : W.cell? ⟨g, 0, none⟩ = some (.slice A 0 c) := hR.cell 0
  have x1 : W.cell? ⟨g, 1, none⟩ = some (.int .i64 (k : Int)) := hR.cell 1
  have f1 := hR.frozen 1
  have k1 : IntKind.i64.wrap (k : Int) = (k : Int) := by rw [IntKind.wrap_i64]; omega
  have k2 : IntKind.i64.wrap ((k : Int) + 1) = (k : Int) + 1 := by rw [IntKind.wrap_i64]; omega
  have k3 : IntKind.i64.wrap (7 * (k : Int)) = 7 * (k : Int) := by rw [IntKind.wrap_i64]; omega
  have hv : 7 * k % m < m := Nat.mod_lt _ (by omega)
  have k4 : (7 * (k : Int)).tmod (m : Int) = ((7 * k % m : Nat) : Int) := by rw [show 7 * (k : Int) = ((7 * k : Nat) : Int) by omega, tmodK]
  obtain ⟨v, hve⟩ : ∃ v, 7 * k % m = v := ⟨_, rfl⟩
  rw [hve] at k4 hv
  have k5 : IntKind.i64.wrap (v : Int) = (v : Int) := by rw [IntKind.wrap_i64]; omega
  have m0 : (m = 0) = False := by simp; omega
  have m1 : ((m : Int) = 0) = False := by simp; omega
  clear hve
  go_enter Try.func86, Try.ntmps86
  go_wp2
  go_region_held3 (fun w' => w'.cell? ⟨g, 0, none⟩ = some (.slice A 0 c) ∧ w'.cell? ⟨g, 1, none⟩ = some (.int .i64 (k : Int))) (go_keep) (fail)
  go_wp2
  go_ret
  exact nu_mk hR rfl hv rfl rfl rfl rfl
set_option maxRecDepth 100000 in
set_option maxHeartbeats 8000000 in
theorem num_some (l : List Int) (b o c g k m : Nat) (W : World) (hR : Row W g 134 (NumC (some ⟨b, o, none⟩) l.length c k)) (hL : IsN W (some ⟨b, o, none⟩) l.length l) (h0 : 0 < l.length) (hl : l.length ≤ 9223372036854775807) (hk : k ≤ 1000000) (hm : 1 ≤ m) (hm2 : m ≤ 1000000) : Calls Try.prog 86 #[.pointer (some ⟨g, 0, none⟩), .int .i64 (m : Int)] W (NuP g (some ⟨b, o, none⟩) l.length c k m W) := by
  obtain ⟨b', o', e, -, hcel⟩ := hL.at_ h0
  cases e
  have x0 : W.cell? ⟨g, 0, none⟩ = some (.slice (some ⟨b, o, none⟩) l.length c) := hR.cell 0
  have x1 : W.cell? ⟨g, 1, none⟩ = some (.int .i64 (k : Int)) := hR.cell 1
  have hi : k % l.length < l.length := Nat.mod_lt _ h0
  have x2 := hcel (k % l.length) hi
  have f1 := hR.frozen 1
  obtain ⟨n, hn⟩ : ∃ n, l.length = n := ⟨_, rfl⟩
  obtain ⟨i, hie⟩ : ∃ i, k % l.length = i := ⟨_, rfl⟩
  obtain ⟨q, hqe⟩ : ∃ q, k / l.length = q := ⟨_, rfl⟩
  have hq : q ≤ k := by rw [← hqe]; exact Nat.div_le_self _ _
  have d1 : (k : Int).tmod (n : Int) = (i : Int) := by rw [← hn, tmodK, hie]
  have d2 : (k : Int).tdiv (n : Int) = (q : Int) := by rw [← hn, tdivK, hqe]
  obtain ⟨x, hx⟩ : ∃ x, l[k % l.length]'hi = x := ⟨_, rfl⟩
  have x2 : W.cell? ⟨b, o + i, none⟩ = some (.int .i64 x) := by rw [← hx, ← hie]; exact x2
  have hi : i < n := by rw [← hie, ← hn]; exact hi
  rw [hn] at x0 h0 hl
  have hp0 : 0 ≤ x % 1073741824 := Int.emod_nonneg _ (by decide)
  have hp1 : x % 1073741824 < 1073741824 := Int.emod_lt_of_pos _ (by decide)
  obtain ⟨p, hp⟩ : ∃ p : Nat, x % 1073741824 = (p : Int) := ⟨(x % 1073741824).toNat, by omega⟩
  rw [hp] at hp1
  have HPL := Lib.hid (fun w => placeU x 1073741824 (by decide) (by decide) w)
  rw [hp] at HPL
  have k1 : IntKind.i64.wrap (i : Int) = (i : Int) := by rw [IntKind.wrap_i64]; omega
  have k1b : IntKind.i64.wrap (q : Int) = (q : Int) := by rw [IntKind.wrap_i64]; omega
  have k2 : IntKind.i64.wrap ((k : Int) + 1) = (k : Int) + 1 := by rw [IntKind.wrap_i64]; omega
  have k3 : IntKind.i64.wrap (7 * (q : Int)) = 7 * (q : Int) := by rw [IntKind.wrap_i64]; omega
  have k3b : IntKind.i64.wrap ((p : Int) + 7 * (q : Int)) = (p : Int) + 7 * (q : Int) := by rw [IntKind.wrap_i64]; omega
  have hv : (p + 7 * q) % m < m := Nat.mod_lt _ (by omega)
  have k4 : ((p : Int) + 7 * (q : Int)).tmod (m : Int) = (((p + 7 * q) % m : Nat) : Int) := by rw [show (p : Int) + 7 * (q : Int) = ((p + 7 * q : Nat) : Int) by omega, tmodK]
  obtain ⟨v, hve⟩ : ∃ v, (p + 7 * q) % m = v := ⟨_, rfl⟩
  rw [hve] at k4 hv
  have k5 : IntKind.i64.wrap (v : Int) = (v : Int) := by rw [IntKind.wrap_i64]; omega
  have m0 : (m = 0) = False := by simp; omega
  have m1 : ((m : Int) = 0) = False := by simp; omega
  have n0 : (n = 0) = False := by simp; omega
  have n1 : ((n : Int) = 0) = False := by simp; omega
  have n2 : ((n : Int) < 1) = False := by simp; omega
  have n3 : (0 < n) = True := by simp; omega
  have i0 : (0 : Int) ≤ (i : Int) := by omega
  have i1 : (i : Int) < (n : Int) := by omega
  have HR := Lib.hid hR
  rw [hn] at HR
  have HN := Lib.hid hn
  clear hve hcel hL hR hn hie hqe hx hp
  go_enter Try.func86, Try.ntmps86
  go_wp2
  go_region_held3 (fun w' => w'.cell? ⟨g, 0, none⟩ = some (.slice (some ⟨b, o, none⟩) n c) ∧ w'.cell? ⟨g, 1, none⟩ = some (.int .i64 (k : Int)) ∧ w'.cell? ⟨b, o + i, none⟩ = some (.int .i64 x)) (go_keep) (first | (go_at_call 20; refine (HPL.out _).mono ?_; rintro en w9 ⟨rfl, rfl⟩))
  go_wp2
  go_region_held3 (fun w' => w'.cell? ⟨g, 0, none⟩ = some (.slice (some ⟨b, o, none⟩) n c) ∧ w'.cell? ⟨g, 1, none⟩ = some (.int .i64 (k : Int))) (go_keep) (fail)
  go_wp2
  go_ret
  rw [HN.out]
  exact nu_mk HR.out rfl hv rfl rfl rfl rfl
theorem next86 (l : List Int) (A : Option Addr) (c g k m : Nat) (W : World) (hR : Row W g 134 (NumC A l.length c k)) (hL : IsN W A l.length l) (hl : l.length ≤ 9223372036854775807) (hk : k ≤ 1000000) (hm : 1 ≤ m) (hm2 : m ≤ 1000000) : Calls Try.prog 86 #[.pointer (some ⟨g, 0, none⟩), .int .i64 (m : Int)] W (NuP g A l.length c k m W) := by
  cases l with
  | nil => exact num_nil A c g k m W hR hk hm hm2
  | cons x r =>
    obtain ⟨b, o, rfl, -, -⟩ := hL.at_ (by simp)
    exact num_some (x :: r) b o c g k m W hR hL (by simp) hl hk hm hm2
end
section
open Go.RowKit Go.Deep Go.ChangeShapes Go.WideShapes
set_option linter.unusedVariables false
theorem cells3T : Try.prog.cellsOf 3 = 1 := by kernel_rfl
def IsTr (w : World) (A : Option Addr) (n : Nat) : Prop := ∀ i, i < n → ∃ b o x y z, A = some ⟨b, o, none⟩ ∧ w.cell? ⟨b, o + i * 3, none⟩ = some (.int .i64 x) ∧ w.cell? ⟨b, o + i * 3 + 1, none⟩ = some (.int .i64 y) ∧ w.cell? ⟨b, o + i * 3 + 2, none⟩ = some (.int .i64 z)
theorem IsTr.part {col : Nat → Nat} {w : World} {A : Option Addr} {n : Nat} (h : IsTr w A n) (hc : ∀ x, x < w.heap.size → col x = 0) : Part col 0 w (fun w => IsTr w A n) := fun w' hs hk i hi => by
  obtain ⟨b, o, x, y, z, e, h0, h1, h2⟩ := h i hi
  have hb := World.block_lt_of_cell? w ⟨b, o + i * 3, none⟩ h0
  have hs := hk b hb (hc b hb)
  exact ⟨b, o, x, y, z, e, (World.cell?_of_block (a := ⟨b, o + i * 3, none⟩) hs).trans h0, (World.cell?_of_block (a := ⟨b, o + i * 3 + 1, none⟩) hs).trans h1, (World.cell?_of_block (a := ⟨b, o + i * 3 + 2, none⟩) hs).trans h2⟩
section
variable {H : Type} {enc : TypeId × Value → H} {W : World} {base : Nat} {spare : Nat → Bool} {held : Bool}
set_option maxRecDepth 100000 in
theorem open_trips {t e : TypeId} {f0 f1 f2 : Field} {fuel : Nat} {A : Option Addr} {len cap : Nat} {x : DataW H × List MemPlace} (ht : Try.prog.underlying t = some (.slice e)) (he : Try.prog.underlying e = some (.struct #[f0, f1, f2]))
    (ce : Try.prog.cellsOf e = 3) (o0 : f0.offset = 0) (o1 : f1.offset = 1) (o2 : f2.offset = 2) (t0 : f0.type = 3) (t1 : f1.type = 3) (t2 : f2.type = 3)
    (h : DataW.trod enc Try.prog W base spare held fuel t [.slice A len cap] = some x) : IsTr W A len := by
  rcases open_slice ht h with ⟨hcs, _⟩ | ⟨a, len', cap', m, n, D, Pl, hcs, hb, hl, hm, hmm, hx, hall⟩
  · simp only [List.cons.injEq, and_true] at hcs
    injection hcs with e1 e2 e3
    intro i hi
    omega
  · simp only [List.cons.injEq, and_true] at hcs
    injection hcs with e1 e2 e3
    subst e1 e2 e3
    intro i hi
    have hlm : i < m := by rw [hmm]; split <;> omega
    obtain ⟨cs', h1, h2⟩ := hall i hlm
    rw [ce] at h1
    obtain ⟨_, hlen, hcell⟩ := World.cells?_some h1
    obtain ⟨xs, k, hk, hxy, _, hxl, hf⟩ := DataW.trod_struct he h2
    match xs, hxl, cs', hlen with
    | [y0, y1, y2], _, [v0, v1, v2], _ =>
      have g0 := hf 0 f0 rfl
      have g1 := hf 1 f1 rfl
      have g2 := hf 2 f2 rfl
      simp [o0, o1, o2, t0, t1, t2, cells3T] at g0 g1 g2
      obtain ⟨z0, q0, _, _⟩ := DataW.trod_int Try.underlying3 g0
      obtain ⟨z1, q1, _, _⟩ := DataW.trod_int Try.underlying3 g1
      obtain ⟨z2, q2, _, _⟩ := DataW.trod_int Try.underlying3 g2
      simp only [List.cons.injEq, and_true] at q0 q1 q2
      subst q0 q1 q2
      have c0 := hcell 0 (by omega)
      have c1 := hcell 1 (by omega)
      have c2 := hcell 2 (by omega)
      obtain ⟨_, h10, _⟩ := hall 0 (by omega)
      rw [ce] at h10
      obtain ⟨_, _, hcell0⟩ := World.cells?_some h10
      obtain ⟨b, o, spot⟩ := a
      have hspot : spot = none := by
        have h11 := hcell0 0 (by omega)
        rw [List.getElem?_eq_getElem (by omega)] at h11
        simpa [Addr.add] using World.cell?_spot h11
      subst hspot
      rw [Addr.add_mid, Addr.add_mid] at c0 c1 c2
      exact ⟨b, o, z0, z1, z2, rfl, by simpa using c0, by simpa using c1, by simpa using c2⟩
end
theorem and1 (x : Int) : bits .and .i64 x 1 = 0 ∨ bits .and .i64 x 1 = 1 := by
  show IntKind.i64.wrap ((BitVec.ofInt 64 x &&& BitVec.ofInt 64 1).toNat : Int) = 0 ∨ IntKind.i64.wrap ((BitVec.ofInt 64 x &&& BitVec.ofInt 64 1).toNat : Int) = 1
  have h : (BitVec.ofInt 64 x &&& BitVec.ofInt 64 1).toNat ≤ 1 := by
    rw [BitVec.toNat_and]
    exact Nat.and_le_right
  rw [IntKind.wrap_i64]
  omega
theorem Part.ofWhiteK {k : Nat} (hk : Out k) {col col' : Nat → Nat} {w w' : World} {P : World → Prop} (h : Part col k w P) (hw : White col w w') (hc : ∀ x, x < w.heap.size → Out (col x) → col' x = col x) : Part col' k w' P := fun w2 hs hb => h w2 (Nat.le_trans hw.size hs) fun x hx h0 => (hb x (Nat.lt_of_lt_of_le hx hw.size) (by rw [hc x hx (by rw [h0]; exact hk), h0])).trans (hw.block x hx (by rw [h0]; exact hk))
theorem Part.ofWhite {col col' : Nat → Nat} {w w' : World} {P : World → Prop} (h : Part col 0 w P) (hw : White col w w') (hc : ∀ x, x < w.heap.size → Out (col x) → col' x = col x) : Part col' 0 w' P := h.ofWhiteK (.inl rfl) hw hc
end
section
open Go.RowKit
set_option linter.unusedVariables false
theorem Only.base {col : Nat → Nat} {k base : Nat} {W w w' : World} (o : Only col k w w') (hk : k ≠ 0) (cb : ∀ x, x < base → col x = 0) (hs : base ≤ w.heap.size) (hB : Below base W w) : Below base W w' :=
  ⟨o.os.trans hB.os, o.tape.trans hB.tape, o.output.trans hB.output, Nat.le_trans hB.size o.size, fun x hx => (o.block x (Nat.lt_of_lt_of_le hx hs) (by rw [cb x hx]; exact fun e => hk e.symm)).trans (hB.block x hx)⟩
theorem CM.only {base g j : Nat} {col : Nat → Nat} {w w' : World} {S : CnS} {p : CnP} (h : CM base g col w S p) (o : Only col j w w') (hj : 20 ≤ j) : CM base g col w' S p :=
  ⟨h.row.only o (by omega), h.cg, h.cb, fun x hx => h.cn x (Nat.le_trans o.size hx), fun s hs => (h.held s hs).only o (by omega), fun s hs => by
    obtain ⟨vs, h1, h2, h3⟩ := h.way s hs
    exact ⟨vs, ⟨h1.part.only o (by omega), h1.blk⟩, h2.only o (by omega), h3⟩, fun i hi => ⟨(h.ints i hi).part.only o (by omega), (h.ints i hi).blk⟩⟩
structure GrowK (g kg k b : Nat) (col : Nat → Nat) (wA w2 w3 : World) (row : Option Nat) : Prop where
  lt : g < wA.heap.size
  cg : col g = kg
  k1 : kg ≠ k
  k0 : 20 ≤ k
  kg0 : 20 ≤ kg
  gr : wA.grownBy w2 row
  rw : ∀ x, row = some x → col x = k
  bb : row = some b ∨ wA.heap.size ≤ b
  bl : b < w2.heap.size
  u : Upd w2 w3 g
section
variable {base g k kg b j : Nat} {col : Nat → Nat} {w wA w2 w3 w' : World} {row : Option Nat}
theorem GrowK.bk (h : GrowK g kg k b col wA w2 w3 row) : wA.heap.size ≤ b ∨ col b = k := by
  rcases h.bb with h1 | h1
  · exact .inr (h.rw b h1)
  · exact .inl h1
theorem GrowK.other (h : GrowK g kg k b col wA w2 w3 row) {x : Nat} (hx : x < wA.heap.size) (hc : col x ≠ k) : paint col b k x = col x := by
  rw [paint_other]
  intro e
  subst e
  rcases h.bk with h1 | h1
  · omega
  · exact hc h1
theorem GrowK.cg' (h : GrowK g kg k b col wA w2 w3 row) : paint col b k g = kg := by
  rw [h.other h.lt (by rw [h.cg]; exact h.k1)]
  exact h.cg
theorem GrowK.o1 (h : GrowK g kg k b col wA w2 w3 row) : Only (paint col b k) k wA w2 := (Only.grown h.gr h.rw).paint h.bk
theorem GrowK.o2 (h : GrowK g kg k b col wA w2 w3 row) : Only (paint col b k) kg w2 w3 := Only.upd h.u h.cg'
theorem GrowK.part {P : World → Prop} (h : GrowK g kg k b col wA w2 w3 row) (hp : Part col j wA P) (hj : k ≠ j) (hj1 : kg ≠ j) : Part (paint col b k) j w3 P := ((hp.paint h.bk hj).only h.o1 hj).only h.o2 hj1
theorem GrowK.own {e : TypeId} {size n c : Nat} {A : Option Addr} {xs : List Value} (h : GrowK g kg k b col wA w2 w3 row) (hp : OwnK col j wA e size A n c xs) (hj : k ≠ j) (hj1 : kg ≠ j) : OwnK (paint col b k) j w3 e size A n c xs := ⟨h.part hp.part hj hj1, fun x hx => by
  have hc := hp.blk x hx
  rw [h.other (hp.part.now.lt x hx) (by rw [hc]; exact fun e => hj e.symm)]
  exact hc⟩
theorem GrowK.new {e : TypeId} {size n c : Nat} {A : Option Addr} {xs : List Value} (h : GrowK g kg k b col wA w2 w3 row) (hq : OwnQ w2 e size A n c xs) (hb : blk A = some b) : OwnK (paint col b k) k w3 e size A n c xs := by
  have hc : ∀ x, blk A = some x → paint col b k x = k := fun x hx => by
    rw [hb] at hx
    injection hx with hx
    rw [← hx, paint_self]
  exact ⟨(Part.own hq hc).only h.o2 h.k1, hc⟩
theorem GrowK.msg {vs : List Value} {q : List (List UInt8)} (h : GrowK g kg k b col wA w2 w3 row) (hm : MsgK col wA vs q) : MsgK (paint col b k) w3 vs q := by
  have hk := h.k0
  have hg := h.kg0
  exact ((hm.paint h.bk (by omega)).only h.o1 (by omega)).only h.o2 (by omega)
theorem GrowK.cb {g0 : Nat} {S : CnS} {p : CnP} (h : GrowK g kg k b col wA w2 w3 row) (hM : CM base g0 col wA S p) : ∀ x, x < base → paint col b k x = 0 := fun x hx => by
  have hk := h.k0
  rw [h.other (by have := hM.bg; have := hM.lt; omega) (by rw [hM.cb x hx]; omega)]
  exact hM.cb x hx
theorem GrowK.cm {g0 : Nat} {S : CnS} {p : CnP} (h : GrowK g kg k b col wA w2 w3 row) (hM : CM base g0 col wA S p) : CM base g0 (paint col b k) w3 S p := by
  have hk := h.k0
  have hg := h.kg0
  refine ⟨h.part hM.row (by omega) (by omega), ?_, h.cb hM, fun x hx => ?_, fun s hs => h.part (hM.held s hs) (by omega) (by omega), fun s hs => ?_, fun i hi => h.own (hM.ints i hi) (by omega) (by omega)⟩
  · rw [h.other hM.lt (by rw [hM.cg]; omega)]
    exact hM.cg
  · have hs := h.u.size
    have h1 := h.bl
    have h2 := h.gr.size
    rw [paint_other (by omega)]
    exact hM.cn x (by omega)
  · obtain ⟨vs, h1, h2, h3⟩ := hM.way s hs
    exact ⟨vs, h.own h1 (by omega) (by omega), h.msg h2, h3⟩
theorem GrowK.bel {g0 : Nat} {W : World} {S : CnS} {p : CnP} (h : GrowK g kg k b col wA w2 w3 row) (hM : CM base g0 col wA S p) (hB : Below base W wA) : Below base W w3 := by
  have hk := h.k0
  have hg := h.kg0
  have hs : base ≤ wA.heap.size := by have := hM.bg; have := hM.lt; omega
  have h1 := h.o1.base (by omega) (h.cb hM) hs hB
  exact h.o2.base (by omega) (h.cb hM) (Nat.le_trans hs h.gr.size) h1
end
structure LnP where
  (A B : Nat → Option Addr) (c d : Nat → Nat) (yA : Nat → Option Addr) (yc : Nat → Nat)
def ECell (L : WrS) (q : LnP) : List Value := (LEV (L.E 0) (q.A 0) (q.c 0) (q.B 0) (q.d 0)).toList ++ (LEV (L.E 1) (q.A 1) (q.c 1) (q.B 1) (q.d 1)).toList
def YCell (L : WrS) (q : LnP) : List Value := [.slice (q.yA 0) (L.Y 0).length (q.yc 0), .slice (q.yA 1) (L.Y 1).length (q.yc 1)]
structure Loc where
  (g ge gy gn : Nat) (A3 : Option Addr) (n3 c3 : Nat)
structure JM (base : Nat) (o : Loc) (kk : Nat) (col : Nat → Nat) (w : World) (C : CnS) (p : CnP) (L : WrS) (q : LnP) : Prop where
  cm : CM base o.g col w C p
  ends : Part col 20 w (fun w => Row w o.ge 90 (ECell L q).toArray)
  ce : col o.ge = 20
  ways : Part col 21 w (fun w => Row w o.gy 91 (YCell L q).toArray)
  cy : col o.gy = 21
  held : ∀ s, s < 2 → Part col 0 w (fun w => Held w (L.E s) (q.A s) (q.c s) (q.B s) (q.d s))
  way : ∀ s, s < 2 → OwnK col (22 + s) w 40 61 (q.yA s) (L.Y s).length (q.yc s) (lsC (L.Y s))
  wok : ∀ s, s < 2 → ∀ l ∈ L.Y s, l.ok
  num : Part col 24 w (fun w => Row w o.gn 134 (NumC o.A3 o.n3 o.c3 kk))
  cn : col o.gn = 24
section
variable {base kk : Nat} {o : Loc} {col : Nat → Nat} {w w' W : World} {C : CnS} {p : CnP} {L : WrS} {q : LnP} {s : Nat}
theorem JM.below (h : JM base o kk col w C p L q) (hb : Below w.heap.size w w') : JM base o kk col w' C p L q :=
  ⟨h.cm.below hb, h.ends.below hb, h.ce, h.ways.below hb, h.cy, fun s hs => (h.held s hs).below hb, fun s hs => (h.way s hs).below hb, h.wok, h.num.below hb, h.cn⟩
theorem JM.drew (h : JM base o kk col w C p L q) : JM base o kk col w.drew C p L q := h.below ((Below.refl _ _).drew)
theorem JM.le (h : JM base o kk col w C p L q) : base ≤ w.heap.size := by have := h.cm.bg; have := h.cm.lt; omega
theorem JM.elt (h : JM base o kk col w C p L q) : o.ge < w.heap.size := h.ends.now.lt
theorem JM.ylt (h : JM base o kk col w C p L q) : o.gy < w.heap.size := h.ways.now.lt
theorem JM.nlt (h : JM base o kk col w C p L q) : o.gn < w.heap.size := h.num.now.lt
theorem JM.step {col' : Nat → Nat} {C' : CnS} {p' : CnP} (h : JM base o kk col w C p L q) (hC : CM base o.g col' w' C' p') (hw : White col w w') (hk : ∀ x, x < w.heap.size → Out (col x) → col' x = col x) : JM base o kk col' w' C' p' L q := by
  have O20 : Out 20 := .inr (by omega)
  refine ⟨hC, h.ends.ofWhiteK (.inr (by omega)) hw hk, ?_, h.ways.ofWhiteK (.inr (by omega)) hw hk, ?_, fun s hs => (h.held s hs).ofWhite hw hk, fun s hs => ⟨(h.way s hs).part.ofWhiteK (.inr (by omega)) hw hk, fun b hb => ?_⟩, h.wok, h.num.ofWhiteK (.inr (by omega)) hw hk, ?_⟩
  · rw [hk _ h.elt (by rw [h.ce]; exact .inr (by omega))]; exact h.ce
  · rw [hk _ h.ylt (by rw [h.cy]; exact .inr (by omega))]; exact h.cy
  · have h1 := (h.way s hs).blk b hb
    have h2 := (h.way s hs).part.now.lt b hb
    rw [hk _ h2 (by rw [h1]; exact .inr (by omega))]; exact h1
  · rw [hk _ h.nlt (by rw [h.cn]; exact .inr (by omega))]; exact h.cn
theorem JM.same {L' : WrS} (h : JM base o kk col w C p L q) (hE : ∀ s, s < 2 → L'.E s = L.E s) (hY : ∀ s, s < 2 → L'.Y s = L.Y s) : JM base o kk col w C p L' q := by
  refine ⟨h.cm, ?_, h.ce, ?_, h.cy, fun s hs => ?_, fun s hs => ?_, fun s hs => ?_, h.num, h.cn⟩
  · have : ECell L' q = ECell L q := by unfold ECell; rw [hE 0 (by omega), hE 1 (by omega)]
    rw [this]; exact h.ends
  · have : YCell L' q = YCell L q := by unfold YCell; rw [hY 0 (by omega), hY 1 (by omega)]
    rw [this]; exact h.ways
  · rw [hE s hs]; exact h.held s hs
  · rw [hY s hs]; exact h.way s hs
  · rw [hY s hs]; exact h.wok s hs
theorem JM.putE (h : JM base o kk col w C p L q) (hs : s < 2) {e' : LE} {A B : Option Addr} {c d : Nat} (u : Upd w w' o.ge) (hH : Part col 0 w (fun w => Held w e' A c B d))
    (hr : Row w' o.ge 90 (ECell { L with E := upd L.E s e' } { q with A := upd q.A s A, c := upd q.c s c, B := upd q.B s B, d := upd q.d s d }).toArray) :
    JM base o kk col w' C p { L with E := upd L.E s e' } { q with A := upd q.A s A, c := upd q.c s c, B := upd q.B s B, d := upd q.d s d } := by
  have oo : Only col 20 w w' := Only.upd u h.ce
  refine ⟨h.cm.only oo (by omega), Part.row hr h.ce, h.ce, h.ways.only oo (by omega), h.cy, fun t ht => ?_, fun t ht => ⟨(h.way t ht).part.only oo (by omega), (h.way t ht).blk⟩, h.wok, h.num.only oo (by omega), h.cn⟩
  by_cases e : t = s
  · subst e
    simp only [upd_self]
    exact hH.only oo (by omega)
  · simp only [upd_other e]
    exact (h.held t ht).only oo (by omega)
theorem JM.putB (h : JM base o kk col w C p L q) (u : Upd w w' o.ge) (hB : Below base W w) : Below base W w' := (Only.upd (col := col) u h.ce).base (by omega) h.cm.cb h.le hB
theorem JM.tailY (h : JM base o kk col w C p L q) (hs : s < 2) {l : Ln} {ls : List Ln} (he : L.Y s = l :: ls) {A : Option Addr} {c : Nat} (u : Upd w w' o.gy) (hA : blk A = blk (q.yA s)) (hq : OwnQ w 40 61 A ls.length c (lsC ls))
    (hr : Row w' o.gy 91 (YCell { L with Y := upd L.Y s ls } { q with yA := upd q.yA s A, yc := upd q.yc s c }).toArray) :
    JM base o kk col w' C p { L with Y := upd L.Y s ls } { q with yA := upd q.yA s A, yc := upd q.yc s c } := by
  have oo : Only col 21 w w' := Only.upd u h.cy
  refine ⟨h.cm.only oo (by omega), h.ends.only oo (by omega), h.ce, Part.row hr h.cy, h.cy, fun t ht => (h.held t ht).only oo (by omega), fun t ht => ?_, fun t ht l' hl' => ?_, h.num.only oo (by omega), h.cn⟩
  · by_cases e : t = s
    · subst e
      simp only [upd_self]
      have hc : ∀ b, blk A = some b → col b = 22 + t := fun b hb => (h.way t ht).blk b (by rw [← hA]; exact hb)
      exact ⟨(Part.own hq hc).only oo (by omega), hc⟩
    · simp only [upd_other e]
      exact ⟨(h.way t ht).part.only oo (by omega), (h.way t ht).blk⟩
  · by_cases e : t = s
    · subst e
      simp only [upd_self] at hl'
      exact h.wok t ht l' (by rw [he]; exact List.mem_cons_of_mem _ hl')
    · simp only [upd_other e] at hl'
      exact h.wok t ht l' hl'
theorem JM.tailB (h : JM base o kk col w C p L q) (u : Upd w w' o.gy) (hB : Below base W w) : Below base W w' := (Only.upd (col := col) u h.cy).base (by omega) h.cm.cb h.le hB
theorem JM.appY {row : Option Nat} {b : Nat} {w2 w3 : World} (h : JM base o kk col w C p L q) (hs : s < 2) (hG : GrowK o.gy 21 (22 + s) b col w w2 w3 row) {l : Ln} {A : Option Addr} {c : Nat} (hl : l.ok) (hq : OwnQ w2 40 61 A ((L.Y s).length + 1) c (lsC (L.Y s) ++ l.v.toList)) (hb : blk A = some b)
    (hr : Row w3 o.gy 91 (YCell { L with Y := upd L.Y s (L.Y s ++ [l]) } { q with yA := upd q.yA s A, yc := upd q.yc s c }).toArray) :
    JM base o kk (paint col b (22 + s)) w3 C p { L with Y := upd L.Y s (L.Y s ++ [l]) } { q with yA := upd q.yA s A, yc := upd q.yc s c } := by
  refine ⟨hG.cm h.cm, hG.part h.ends (by omega) (by omega), ?_, Part.row hr hG.cg', hG.cg', fun t ht => hG.part (h.held t ht) (by omega) (by omega), fun t ht => ?_, fun t ht l' hl' => ?_, hG.part h.num (by omega) (by omega), ?_⟩
  · rw [hG.other h.elt (by rw [h.ce]; omega)]; exact h.ce
  · by_cases e : t = s
    · subst e
      simp only [upd_self]
      have := hG.new hq hb
      rw [lsC_snoc]
      simpa using this
    · simp only [upd_other e]
      exact hG.own (h.way t ht) (by omega) (by omega)
  · by_cases e : t = s
    · subst e
      simp only [upd_self] at hl'
      rcases List.mem_append.1 hl' with h3 | h3
      · exact h.wok t ht l' h3
      · rw [List.mem_singleton.1 h3]; exact hl
    · simp only [upd_other e] at hl'
      exact h.wok t ht l' hl'
  · rw [hG.other h.nlt (by rw [h.cn]; omega)]; exact h.cn
theorem JM.next (h : JM base o kk col w C p L q) (u : Upd w w' o.gn) (hr : Row w' o.gn 134 (NumC o.A3 o.n3 o.c3 (kk + 1))) : JM base o (kk + 1) col w' C p L q := by
  have oo : Only col 24 w w' := Only.upd u h.cn
  exact ⟨h.cm.only oo (by omega), h.ends.only oo (by omega), h.ce, h.ways.only oo (by omega), h.cy, fun t ht => (h.held t ht).only oo (by omega), fun t ht => ⟨(h.way t ht).part.only oo (by omega), (h.way t ht).blk⟩, h.wok, Part.row hr h.cn, h.cn⟩
theorem JM.nextB (h : JM base o kk col w C p L q) (u : Upd w w' o.gn) (hB : Below base W w) : Below base W w' := (Only.upd (col := col) u h.cn).base (by omega) h.cm.cb h.le hB
theorem JM.stepB {w1 : World} (h : JM base o kk col w C p L q) (hw : White col w w1) (hB : Below base W w) : Below base W w1 := h.cm.white hw hB
theorem JM.tailZ (h : JM base o kk col w C p L q) (hs : s < 2) {m : List UInt8} {zs : List (List UInt8)} {vs : List Value} (he : C.Z s = m :: zs) {A : Option Addr} {c : Nat} (u : Upd w w' o.g) (hA : blk A = blk (p.zA s)) (hm : MsgK col w vs (m :: zs)) (hv : CapL vs) (hq : OwnQ w 44 1 A zs.length c (vs.drop 1))
    (hr : Row w' o.g 116 (CCell { C with Z := upd C.Z s zs } { p with zA := upd p.zA s A, zc := upd p.zc s c }).toArray) :
    JM base o kk col w' { C with Z := upd C.Z s zs } { p with zA := upd p.zA s A, zc := upd p.zc s c } L q :=
  h.step (h.cm.tailZ hs he u hA hm hv hq hr) ((Only.upd (col := col) u h.cm.cg).white (by omega)) (fun _ _ _ => rfl)
theorem JM.tailZB (h : JM base o kk col w C p L q) (u : Upd w w' o.g) (hB : Below base W w) : Below base W w' := (Only.upd (col := col) u h.cm.cg).base (by omega) h.cm.cb h.le hB
theorem JM.cells (h : JM base o kk col w C p L q) :
    w.rangeAt o.ge 0 (LEV (L.E 0) (q.A 0) (q.c 0) (q.B 0) (q.d 0)).toList ∧ w.rangeAt o.ge 10 (LEV (L.E 1) (q.A 1) (q.c 1) (q.B 1) (q.d 1)).toList ∧
    w.cell? ⟨o.gy, 0, none⟩ = some (.slice (q.yA 0) (L.Y 0).length (q.yc 0)) ∧ w.cell? ⟨o.gy, 1, none⟩ = some (.slice (q.yA 1) (L.Y 1).length (q.yc 1)) ∧ (∀ i, w.frozen? ⟨o.ge, i, none⟩ = false) ∧ (∀ i, w.frozen? ⟨o.gy, i, none⟩ = false) := by
  have hr := h.ends.now
  have hy := h.ways.now
  refine ⟨fun j v hv => ?_, fun j v hv => ?_, hy.cell 0, hy.cell 1, hr.frozen, hy.frozen⟩
  · rw [Nat.zero_add, hr.cell]
    have hj : j < 10 := by have := (List.getElem?_eq_some_iff.1 hv).1; simpa [LEV] using this
    rw [List.getElem?_toArray]
    unfold ECell
    rw [List.getElem?_append_left (by simpa [LEV] using hj)]
    exact hv
  · rw [hr.cell]
    have hj : j < 10 := by have := (List.getElem?_eq_some_iff.1 hv).1; simpa [LEV] using this
    rw [List.getElem?_toArray]
    unfold ECell
    rw [List.getElem?_append_right (by simp [LEV])]
    have : 10 + j - (LEV (L.E 0) (q.A 0) (q.c 0) (q.B 0) (q.d 0)).toList.length = j := by simp [LEV]
    rw [this]
    exact hv
end
theorem Part.later {col col' : Nat → Nat} {k : Nat} {w0 w : World} {P : World → Prop} (h : Part col k w0 P) (hb : Below w0.heap.size w0 w) (hk : ∀ x, x < w0.heap.size → col' x = col x) : Part col' k w P := fun w2 hs h2 => h w2 (Nat.le_trans hb.size hs) fun x hx hc => (h2 x (Nat.lt_of_lt_of_le hx hb.size) ((hk x hx).trans hc)).trans (hb.block x hx)
theorem OwnK.later {col col' : Nat → Nat} {k : Nat} {w0 w : World} {e : TypeId} {size n c : Nat} {A : Option Addr} {xs : List Value} (h : OwnK col k w0 e size A n c xs) (hb : Below w0.heap.size w0 w) (hk : ∀ x, x < w0.heap.size → col' x = col x) : OwnK col' k w e size A n c xs := ⟨h.part.later hb hk, fun b hB => (hk b (h.part.now.lt b hB)).trans (h.blk b hB)⟩
theorem CM.later {base g : Nat} {col col' : Nat → Nat} {w0 w : World} {S : CnS} {p : CnP} (h : CM base g col w0 S p) (hb : Below w0.heap.size w0 w) (hk : ∀ x, x < w0.heap.size → col' x = col x) (hn : ∀ x, w.heap.size ≤ x → col' x = 0) : CM base g col' w S p :=
  ⟨h.row.later hb hk, (hk g h.lt).trans h.cg, fun x hx => (hk x (by have := h.bg; have := h.lt; omega)).trans (h.cb x hx), hn, fun s hs => (h.held s hs).later hb hk, fun s hs => by
    obtain ⟨vs, h1, h2, h3⟩ := h.way s hs
    exact ⟨vs, h1.later hb hk, ⟨h2.1, fun i hi => by
      obtain ⟨A, c, e, hp⟩ := h2.2 i hi
      exact ⟨A, c, e, hp.later hb hk⟩⟩, h3⟩, fun i hi => (h.ints i hi).later hb hk⟩
def newQ : LnP := ⟨fun _ => none, fun _ => none, fun _ => 0, fun _ => 0, fun _ => none, fun _ => 0⟩
theorem JM.new {base : Nat} {o : Loc} {col : Nat → Nat} {w0 w : World} {C : CnS} {p : CnP} {R : Int} (hM : CM base o.g col w0 C p) (hb : Below w0.heap.size w0 w) (he : w0.heap.size ≤ o.ge) (h1 : o.ge < o.gy) (h2 : o.gy < o.gn)
    (hre : Row w o.ge 90 (ECell (newS R) newQ).toArray) (hry : Row w o.gy 91 (YCell (newS R) newQ).toArray) (hrn : Row w o.gn 134 (NumC o.A3 o.n3 o.c3 0)) : JM base o 0 (paint (paint (paint col o.ge 20) o.gy 21) o.gn 24) w C p (newS R) newQ := by
  have k1 : paint (paint (paint col o.ge 20) o.gy 21) o.gn 24 o.ge = 20 := by rw [paint_other (by omega), paint_other (by omega), paint_self]
  have k2 : paint (paint (paint col o.ge 20) o.gy 21) o.gn 24 o.gy = 21 := by rw [paint_other (by omega), paint_self]
  have k3 : paint (paint (paint col o.ge 20) o.gy 21) o.gn 24 o.gn = 24 := paint_self _ _ _
  have l1 := hre.lt
  have l2 := hry.lt
  have l3 := hrn.lt
  have l0 := hb.size
  refine ⟨hM.later hb (fun x hx => ?_) (fun x hx => ?_), Part.row hre k1, k1, Part.row hry k2, k2, fun s hs w' _ _ => held_new R w', fun s hs => ⟨fun w' _ _ => OwnQ.nil _ _ _, fun b hb => by cases hb⟩, fun s hs l hl => (by cases hl), Part.row hrn k3, k3⟩
  · rw [paint_other (by omega), paint_other (by omega), paint_other (by omega)]
  · rw [paint_other (by omega), paint_other (by omega), paint_other (by omega)]
    exact hM.cn x (by omega)
def LInv (base : Nat) (o : Loc) (N : Int) (W : World) (i : Nat) (w : World) : Prop := ∃ U F Z L col p q c, JI N c (40 * i) U F Z L ∧ c ≤ i ∧ c ≤ 60 ∧ JM base o i col w (U.cn Z) p L q ∧ Below base W w ∧ Prog i U Z L
def PInv (base : Nat) (o : Loc) (N : Int) (W : World) (i kk : Nat) (w : World) : Prop := ∃ U F Z L col p q c, JI N c (40 * i) U F Z L ∧ c ≤ i + 1 ∧ c ≤ 60 ∧ JM base o kk col w (U.cn Z) p L q ∧ Below base W w ∧ ((i < 60 ∧ jp U Z L ≤ 23 * (i + 1)) ∨ (60 ≤ i ∧ Prog i U Z L))
def MInv (base : Nat) (o : Loc) (N : Int) (W : World) (i s ph K : Nat) (w : World) : Prop := ∃ U F Z L col p q c k, JI N c k U F Z L ∧ k ≤ K ∧ c ≤ i + 1 ∧ c ≤ 60 ∧ JM base o (i + 1) col w (U.cn Z) p L q ∧ Below base W w ∧ MProg i s ph U Z L
def EInv (base : Nat) (o : Loc) (N : Int) (W : World) (i s : Nat) (w : World) : Prop := ∃ U F Z L col p q c k, JI N c k U F Z L ∧ k + (Z (1 - s)).length ≤ 40 * i + 32 ∧ c ≤ i + 1 ∧ c ≤ 60 ∧ JM base o (i + 1) col w (U.cn Z) p L q ∧ Below base W w ∧ MProg i s 1 U Z L
theorem newJI {N R : Int} (n1 : 1 ≤ N) (n2 : N ≤ 16) (hR : vl R = true) : JI N 0 0 (newUS N) (fun _ => []) (fun _ => []) (newS R) ∧ Prog 0 (newUS N) (fun _ => []) (newS R) := by
  have hw := newS_inv hR
  refine ⟨⟨newUS_inv n1 n2, fun s hs => ⟨[], rfl, rfl⟩, hw, fun s hs => rfl⟩, .inl ⟨by omega, ?_⟩⟩
  have := hw.p
  have e : upots (newUS N) = 0 := rfl
  unfold jp
  rw [e]
  simp only [List.length_nil]
  omega
theorem MInv.next {base : Nat} {o : Loc} {N : Int} {W w : World} {i s : Nat} (h : MInv base o N W i s 4 (40 * i + 33) w) (hi : i < 1000000) : LInv base o N W (i + 1) w := by
  obtain ⟨U, F, Z, L, col, p, q, c, k, hJ, hk, hc, hc2, hM, hB, hP⟩ := h
  exact ⟨U, F, Z, L, col, p, q, c, hJ.more (Nat.le_refl _) (by omega) (by omega), hc, hc2, hM, hB, hP.fin hJ⟩
theorem IsRow.isNK {w : World} {a : Option Addr} {len cap : Nat} {zs : List Int} (h : IsRow .i64 w a len cap zs) : ∃ l, IsN w a len l ∧ len ≤ 9223372036854775807 := by
  rcases h with ⟨rfl, rfl, rfl, rfl⟩ | ⟨x, rfl, hl, hm, hz, hcell, hwz⟩
  · exact ⟨[], IsN.nil _ _, by omega⟩
  · refine ⟨zs.take len, ⟨by simp; omega, fun hn => ?_⟩, by simp only [maxLen] at hm; omega⟩
    have h0 := hcell 0 (by omega)
    obtain ⟨b, o, sp⟩ := x
    have hsp : sp = none := by simpa [Addr.add] using World.cell?_spot h0
    subst hsp
    refine ⟨b, o, rfl, fun i hi => ?_⟩
    have hi' : i < zs.length := by simp at hi; omega
    have := hcell i hi'
    rw [Addr.add_mid] at this
    rw [this]
    simp [hi']
end
section
open Go.RowKit
set_option linter.unusedVariables false
theorem Part.held {col : Nat → Nat} {k : Nat} {w : World} {lo hi : Nat} {e : LE} {A B : Option Addr} {c d : Nat} (h : HeldI w lo hi e A c B d) (hc : ∀ x, lo ≤ x → x < hi → col x = k) : Part col k w (fun w => Held w e A c B d) := fun w2 hs hb => h.2 w2 fun g _ _ _ h1 h2 _ _ => hb g (Nat.lt_of_lt_of_le h2 h.1) (hc g h1 h2)
def ScrQ (N : Int) (c : Nat) (S : UcS) (F : Nat → List RM) (S' : UcS) (F' : Nat → List RM) : Prop := F' = F ∧ UInv N (c + 1) S' ∧ (S' = S ∨ (∃ s v, s < 2 ∧ S' = callS S s v) ∨ ∃ s n v, s < 2 ∧ n ∈ (S.E s).ss ∧ S' = repS S s n v)
theorem do_scr {base g : Nat} {col : Nat → Nat} {w : World} {S : UcS} {F : Nat → List RM} {Z : Nat → List (List UInt8)} {p : CnP} {N : Int} {c : Nat} (hM : CM base g col w (S.cn Z) p) (hI : UInv N c S) (hR : RelF S F Z) (hc : c ≤ 999) (kd sd sv : Int) (hk : kd % 3 ≠ 1) : Calls Try.prog 68 #[.pointer (some ⟨g, 0, none⟩), .agg #[.int .i64 kd, .int .i64 sd, .int .i64 sv]] w (CPost (ScrQ N c S F) base g col w) := by
  have hk3 : kd % 3 = 0 ∨ kd % 3 = 2 := by omega
  rcases and1 sd with h | h <;> rcases hk3 with h3 | h3
  · exact (do_call0 hM hI hR (by omega) h h3).mono fun en W' h => h.mono fun S' F' ⟨h1, h2, h3⟩ => ⟨h1, h2, by
      rcases h3 with h3 | ⟨v, h3⟩
      · exact .inl h3
      · exact .inr (.inl ⟨0, v, by omega, h3⟩)⟩
  · exact (do_rep0 hM hI hR (by omega) h h3).mono fun en W' h => h.mono fun S' F' ⟨h1, h2, h3⟩ => ⟨h1, h2.more (by omega) (by omega), by
      rcases h3 with ⟨h3, -⟩ | ⟨n, v, h3, h4⟩
      · exact .inl h3
      · exact .inr (.inr ⟨0, n, v, by omega, h3, h4⟩)⟩
  · exact (do_call1 hM hI hR (by omega) h h3).mono fun en W' h => h.mono fun S' F' ⟨h1, h2, h3⟩ => ⟨h1, h2, by
      rcases h3 with h3 | ⟨v, h3⟩
      · exact .inl h3
      · exact .inr (.inl ⟨1, v, by omega, h3⟩)⟩
  · exact (do_rep1 hM hI hR (by omega) h h3).mono fun en W' h => h.mono fun S' F' ⟨h1, h2, h3⟩ => ⟨h1, h2.more (by omega) (by omega), by
      rcases h3 with ⟨h3, -⟩ | ⟨n, v, h3, h4⟩
      · exact .inl h3
      · exact .inr (.inr ⟨1, n, v, by omega, h3, h4⟩)⟩
section
variable {N : Int} {c k i s : Nat} {U U' : UcS} {F F' : Nat → List RM} {Z Z' : Nat → List (List UInt8)} {L : WrS}
theorem JI.scr (h : JI N c k U F Z L) (hc : c ≤ 999) (hQ : ScrQ N c U F U' F') (hR : RelF U' F' Z') : JI N (c + 1) k U' F Z' L ∧ jp U' Z' L ≤ jp U Z L + 23 := by
  obtain ⟨rfl, hI, h1 | ⟨s, v, hs, h1⟩ | ⟨s, n, v, hs, hn, h1⟩⟩ := hQ
  · subst h1
    refine ⟨⟨hI, hR, h.l, h.f⟩, ?_⟩
    rw [jp_z (h.r.zeq hR)]
    omega
  · exact h.call hs h1 hI hR
  · obtain ⟨a, b, -⟩ := (h.more (c' := c + 1) (k' := k) (by omega) (by omega) (Nat.le_refl _)).rep hs hn h1 hI hR
    exact ⟨a, by omega⟩
theorem JI.repM (h : JI N c k U F Z L) (hs : s < 2) (h60 : 60 ≤ i) (hsi : s = i % 2) (hP : Prog i U Z L) (hI : UInv N c U') (hR : RelF U' F Z') (hq : (U' = U ∧ (U.E s).ss = []) ∨ ∃ n v, n ∈ (U.E s).ss ∧ U' = repS U s n v) : JI N c k U' F Z' L ∧ MProg i s 1 U' Z' L := by
  rcases hq with ⟨rfl, h1⟩ | ⟨n, v, hn, h1⟩
  · exact ⟨⟨hI, hR, h.l, h.f⟩, MProg.start h60 hsi hP ⟨Nat.le_refl _, by rw [jp_z (h.r.zeq hR)]; exact Nat.le_refl _, fun _ => ⟨rfl, h.r.zeq hR, rfl, fun _ => h1, fun h => by omega, fun h => by omega, fun h => by omega⟩⟩⟩
  · obtain ⟨a, b, d⟩ := h.rep hs hn h1 hI hR
    exact ⟨a, MProg.start h60 hsi hP ⟨by omega, by omega, fun e => by omega⟩⟩
theorem Prog.early (h : Prog i U Z L) (hi : i < 60) : jp U Z L ≤ 23 * i := by
  rcases h with ⟨h1, h2⟩ | ⟨r, h1, h2⟩ | ⟨r, U9, Z9, L9, h1, h2, h3⟩
  · exact h2
  · omega
  · omega
end
theorem num2 {l : List Int} {A : Option Addr} {n c g k : Nat} {W : World} (hn : l.length = n) (hR : Row W g 134 (NumC A n c k)) (hL : IsN W A n l) (hl : n ≤ 9223372036854775807) (hk : k ≤ 1000000) : Calls Try.prog 86 #[.pointer (some ⟨g, 0, none⟩), .int .i64 2] W (NuP g A n c k 2 W) := by
  subst hn
  exact next86 l A c g k 2 W hR hL hl hk (by omega) (by omega)
def cellLen (w : World) (g i : Nat) : Nat := match w.cell? ⟨g, i, none⟩ with
  | some (.slice _ n _) => n
  | _ => 0
theorem cellLen_of {w : World} {g i n c : Nat} {A : Option Addr} (h : w.cell? ⟨g, i, none⟩ = some (.slice A n c)) : cellLen w g i = n := by unfold cellLen; rw [h]
def UeS (w0 : World) (e9 : LE) (ia : Nat) (c : Nat) (us : Nat → Value) (w : World) : Prop := Below w0.heap.size w0 w ∧ (1 ≤ c → ∃ g8 A c B d hi, us ia = .pointer (some ⟨g8, 0, none⟩) ∧ w0.heap.size ≤ g8 ∧ Row w g8 69 (LEV e9 A c B d) ∧ HeldI w w0.heap.size hi e9 A c B d)
theorem UeS.loc {w0 : World} {e9 : LE} {ia is : Nat} {ops : Array Oper} (hw : waits (opOf ops is) ia = true) : ∀ c us us' w', (∀ k, mayAt ops [is] c k = false ∨ k ∈ [is].take c → us k = us' k) → UeS w0 e9 ia c us w' → UeS w0 e9 ia c us' w' := by
  intro c us us' w' hk ⟨a, b⟩
  refine ⟨a, fun hc => ?_⟩
  rw [← hk ia (.inl (mayAt_no (d := 0) hw (by omega) (by simp)))]
  exact b hc
def DeG (w0 w w' : World) : Prop := Keeps [69] w w' ∧ Shp w0.heap.size w w'
theorem DeG.refl (w0 w : World) : DeG w0 w w := ⟨Keeps.refl _ _, Shp.refl _ _⟩
theorem DeG.below {w0 w w' : World} (h : Below w.heap.size w w') : DeG w0 w w' := ⟨Keeps.below h, Shp.below h⟩
theorem PtrN.monoG {w0 : World} {t : TypeId} {n : Nat} (u : Value) (w w' : World) (h : DeG w0 w w') (k : PtrN w0.heap.size t n u w) : PtrN w0.heap.size t n u w' := PtrN.mono u w w' h.2 k
def Ue12 (w0 : World) (e9 : LE) (u : Value) (w : World) : Prop := ∃ A c B d hi, u = .tuple #[.agg (LEV e9 A c B d), .int .i64 0] ∧ HeldI w w0.heap.size hi e9 A c B d
def Ue14 (w0 : World) (e9 : LE) (u : Value) (w : World) : Prop := ∃ A c B d hi, u = .agg (LEV e9 A c B d) ∧ HeldI w w0.heap.size hi e9 A c B d
theorem Ue12.mono {w0 : World} {e9 : LE} (u : Value) (w w' : World) (hg : DeG w0 w w') (h : Ue12 w0 e9 u w) : Ue12 w0 e9 u w' := by
  obtain ⟨A, c, B, d, hi, e, h1⟩ := h
  exact ⟨A, c, B, d, hi, e, h1.keeps hg.1 (by decide) (by decide)⟩
theorem Ue14.mono {w0 : World} {e9 : LE} (u : Value) (w w' : World) (hg : DeG w0 w w') (h : Ue14 w0 e9 u w) : Ue14 w0 e9 u w' := by
  obtain ⟨A, c, B, d, hi, e, h1⟩ := h
  exact ⟨A, c, B, d, hi, e, h1.keeps hg.1 (by decide) (by decide)⟩
def DeS (w0 : World) (e9 : LE) (ia : Nat) (c : Nat) (us : Nat → Value) (w : World) : Prop := Below w0.heap.size w0 w ∧ (1 ≤ c → ∃ g8 A c B d, us ia = .pointer (some ⟨g8, 0, none⟩) ∧ w0.heap.size ≤ g8 ∧ Row w g8 69 (LEV e9 A c B d) ∧ HeldT w w0.heap.size e9 A c B d)
def De7 (w0 : World) (e9 : LE) (ms : List UInt8) (cc : Bool) (u : Value) (w : World) : Prop := ∃ A c B d M mc, u = .tuple #[.agg (LEV e9 A c B d), .slice M ms.length mc, .bool cc, .int .i64 0] ∧ HeldT w w0.heap.size e9 A c B d ∧ OwnB w w0.heap.size 5 M ms.length mc ms
def De9 (w0 : World) (e9 : LE) (u : Value) (w : World) : Prop := ∃ A c B d, u = .agg (LEV e9 A c B d) ∧ HeldT w w0.heap.size e9 A c B d
def De10 (w0 : World) (ms : List UInt8) (u : Value) (w : World) : Prop := ∃ M mc, u = .slice M ms.length mc ∧ OwnB w w0.heap.size 5 M ms.length mc ms
theorem De7.mono {w0 : World} {e9 : LE} {ms : List UInt8} {cc : Bool} (u : Value) (w w' : World) (hg : DeG w0 w w') (h : De7 w0 e9 ms cc u w) : De7 w0 e9 ms cc u w' := by
  obtain ⟨A, c, B, d, M, mc, e, h1, h2⟩ := h
  exact ⟨A, c, B, d, M, mc, e, h1.keeps hg.1 (by decide) (by decide), h2.keeps hg.1 (by decide)⟩
theorem De9.mono {w0 : World} {e9 : LE} (u : Value) (w w' : World) (hg : DeG w0 w w') (h : De9 w0 e9 u w) : De9 w0 e9 u w' := by
  obtain ⟨A, c, B, d, e, h1⟩ := h
  exact ⟨A, c, B, d, e, h1.keeps hg.1 (by decide) (by decide)⟩
theorem De10.mono {w0 : World} {ms : List UInt8} (u : Value) (w w' : World) (hg : DeG w0 w w') (h : De10 w0 ms u w) : De10 w0 ms u w' := by
  obtain ⟨M, mc, e, h1⟩ := h
  exact ⟨M, mc, e, h1.keeps hg.1 (by decide)⟩
theorem DeS.loc {w0 : World} {e9 : LE} {ia is : Nat} {ops : Array Oper} (hw : waits (opOf ops is) ia = true) : ∀ c us us' w', (∀ k, mayAt ops [is] c k = false ∨ k ∈ [is].take c → us k = us' k) → DeS w0 e9 ia c us w' → DeS w0 e9 ia c us' w' := by
  intro c us us' w' hk ⟨a, b⟩
  refine ⟨a, fun hc => ?_⟩
  rw [← hk ia (.inl (mayAt_no (d := 0) hw (by omega) (by simp)))]
  exact b hc
theorem nxV_ln {e : LE} (h : Gd e) : ∃ l : Ln, nxV e = l.v ∧ l.p.length = 56 ∧ (nxE e = 0 → l = nxn e) := by
  by_cases h0 : nxE e = 0
  · exact ⟨nxn e, nxn_v h0, (nxn_ok h.ve).1, fun _ => rfl⟩
  · exact ⟨⟨0, false, false, 0, 0, z56⟩, by unfold nxV; rw [if_neg h0]; rfl, rfl, fun h => absurd h h0⟩
section
variable {P : Program} {ops : Array Oper} {rest : List Oper} {Q : Exit → Act → World → Prop} {a : Act} {w : World}
theorem wp_slice_is {dst : Option Tmp} {ty typ : TypeId} {x l : Operand} {pos : String} {after : Array Edge} {v : Value} (hex : (execOp a.eval { dst := dst, op := .slice ty x (some l) none none, type := typ, pos := pos, after := after, guard := none }).run P w = .ok (.value v) w) (h : wpList P ops Q rest (a.put dst v) w) :
    wpList P ops Q ({ dst := dst, op := .slice ty x (some l) none none, type := typ, pos := pos, after := after, guard := none } :: rest) a w := by
  refine wpList_plain rfl fun K hK => ?_
  unfold Oper.wp
  rw [hex]
  simp only [Oper.upon]
  exact hK _ _ h
end
theorem info90 : (Try.prog.info? 90).map (·.size) = some 20 := by kernel_rfl
theorem ecell_info (L : WrS) (q : LnP) : (Try.prog.info? 90).map (·.size) = some (ECell L q).toArray.size := info90
theorem ecell_one (L : WrS) (q : LnP) : (ECell L q).toArray.all (·.oneCell') = true := by simp [ECell, LEV, Value.oneCell']
end
section
open Go.RowKit
set_option linter.unusedVariables false
set_option linter.unusedSimpArgs false
def newCP : CnP := ⟨fun _ => none, fun _ => none, fun _ => 0, fun _ => 0, fun _ => none, fun _ => none, fun _ => 0, fun _ => 0⟩
def newCn (n : Int) : CnS := (newUS n).cn (fun _ => [])
theorem newCM {base g : Nat} {w : World} {n : Int} (hr : Row w g 116 (CCell (newCn n) newCP).toArray) (hb : base ≤ g) : CM base g (paint (fun _ => 0) g 1) w (newCn n) newCP := by
  have hc : paint (fun _ => 0) g 1 g = 1 := paint_self _ _ _
  have hn : ∀ b k, blk none = some b → paint (fun _ => 0) g 1 b = k := fun b k h => by cases h
  refine ⟨Part.row hr hc, hc, fun x hx => paint_other (by omega), fun x hx => paint_other (by have := hr.lt; omega), fun s hs w' _ _ => ⟨IsN.nil _ _, IsN.nil _ _, Nat.zero_le _, Nat.zero_le _⟩, fun s hs => ⟨[], ⟨Part.own (OwnQ.nil _ _ _) (fun b h => hn b _ h), fun b h => hn b _ h⟩, ⟨rfl, fun i hi => absurd hi (Nat.not_lt_zero _)⟩, fun v hv => (by cases hv)⟩, fun i hi => ?_⟩
  have hz : (newCn n).I i = [] := by
    match i with
    | 0 => rfl
    | 1 => rfl
    | 2 => rfl
    | 3 => rfl
    | 4 => rfl
    | i + 5 => rfl
  rw [hz]
  exact ⟨Part.own (OwnQ.nil _ _ _) (fun b h => hn b _ h), fun b h => hn b _ h⟩
def OpnU (base : Nat) (W : World) (en : Ending) (W' : World) : Prop := ∃ g n col p, 1 ≤ n ∧ n ≤ 16 ∧ en = .returned (.tuple #[.pointer (some ⟨g, 0, none⟩), .bool true]) ∧ CM base g col W' (newCn n) p ∧ (∀ x, x ≠ g → col x = 0) ∧ Below W.heap.size W W'
def BxS (w0 : World) (L : Array Value) (c : Nat) (us : Nat → Value) (w : World) : Prop := Below w0.heap.size w0 w ∧ (c = 0 → w = w0) ∧ (1 ≤ c → us 4 = .pointer (some ⟨w0.heap.size, 0, none⟩) ∧ w = w0.alloc (.cells L 116))
theorem BxS.loc {w0 : World} {L : Array Value} {ops : Array Oper} : ∀ c us us' w, (∀ k, mayAt ops [4] c k = false ∨ k ∈ [4].take c → us k = us' k) → BxS w0 L c us w → BxS w0 L c us' w := by
  intro c us us' w hk ⟨a, b, d⟩
  refine ⟨a, b, fun hc => ?_⟩
  rw [← hk 4 (.inr (by obtain ⟨j, rfl⟩ : ∃ j, c = j + 1 := ⟨c - 1, by omega⟩; simp))]
  exact d hc
set_option maxRecDepth 100000 in
set_option maxHeartbeats 8000000 in
theorem cn_open (base : Nat) (t : Int) (W : World) (hb0 : base ≤ W.heap.size) : Calls Try.prog 67 #[.int .i64 t] W (OpnU base W) := by
  obtain ⟨q, hq⟩ : ∃ q, t % 16 = q := ⟨_, rfl⟩
  have HQ := Lib.hid hq
  have p0 : 0 ≤ q := by rw [← hq]; exact Int.emod_nonneg _ (by omega)
  have p1 : q ≤ 15 := by rw [← hq]; have := Int.emod_lt_of_pos t (show (0 : Int) < 16 by omega); omega
  have hwq : IntKind.i64.wrap (1 + q) = 1 + q := by rw [IntKind.wrap_i64]; omega
  clear hq
  go_enter Try.func67, Try.ntmps67
  go_upto_region 2 with (go_at_call 20; (with_reducible refine (place_is HQ.out (by omega) (by omega) _).mono ?_); rintro en w' ⟨rfl, h9⟩; rw [← h9]; clear h9)
  obtain ⟨n, hn⟩ : ∃ n, 1 + q = n := ⟨_, rfl⟩
  rw [hn]
  have n1 : 1 ≤ n := by omega
  have n2 : n ≤ 16 := by omega
  have HKN := Lib.hid (show nwK n = true by unfold nwK; rw [dt n1, dt n2]; rfl)
  clear hwq hn
  go_upto_region 3 with (first | (go_at_call 71; (with_reducible refine (newU_is (n := n) (e := nwU n) HKN.out rfl).mono ?_); rintro en w1 ⟨rfl, hb⟩) | ((with_reducible refine wp_row_store (L := UEV (nwU n) none 0 none 0) (Row.bornAt' (g := w1.heap.size) rfl 112 _) ?_ (uev_info _ _ _ _ _) (uev_one _ _ _ _ _) ?_ ?_ ?_); rfl; rfl; rfl; intro wa ua ra))
  have hBW := Upd.below (hb.trans (((Below.refl w1.heap.size w1).alloc (Nat.le_refl _) (.cells ZU 112)).mono hb.size)) ua hb.size
  have h15 := hb.size
  clear hb ua
  generalize w1.heap.size = g5 at *
  go_upto_region 4 with (first | (go_at_call 71; (with_reducible refine (newU_is (n := n) (e := nwU n) HKN.out rfl).mono ?_); rintro en w2 ⟨rfl, hb⟩) | ((with_reducible refine wp_row_store (L := UEV (nwU n) none 0 none 0) (Row.bornAt' (g := w2.heap.size) rfl 112 _) ?_ (uev_info _ _ _ _ _) (uev_one _ _ _ _ _) ?_ ?_ ?_); rfl; rfl; rfl; intro wb ub rb))
  have hal := Upd.below (hb.trans (((Below.refl w2.heap.size w2).alloc (Nat.le_refl _) (.cells ZU 112)).mono hb.size)) ub hb.size
  have hBW2 := (hBW.trans (hal.mono hBW.size)).drew
  have ra : Row wb.drew g5 112 #[.int .i64 n, .int .i64 0, .int .i64 0, .slice none 0 0, .slice none 0 0, .bool false] := ra.below (hal.drew) ra.lt
  clear hb ub hal hBW
  have rb : Row wb.drew w2.heap.size 112 #[.int .i64 n, .int .i64 0, .int .i64 0, .slice none 0 0, .slice none 0 0, .bool false] := rb
  have q0 : wb.drew.cell? ⟨g5, 0, none⟩ = some (.int .i64 n) := ra.cell 0
  have hl5 := ra.lt
  refine wp_region_late (n := 39) [4] (BxS wb.drew (CCell (newCn n) newCP).toArray) (fun _ _ => True) (by kernel_rfl) (by kernel_rfl) (by rfl) BxS.loc ⟨Below.refl _ _, fun _ => rfl, fun h => by omega⟩ ?_
  generalize wb.drew = wd at *
  refine late_pure (by simp) (fun _ => trivial) (v := .agg #[.int .i64 n, .int .i64 0, .int .i64 0, .slice none 0 0, .slice none 0 0, .bool false]) (fun _ => rfl) ?_ ?_; (focus (intro c9 us w9 hm9 hS9 hF; exact exec_load_g (cs := #[.int .i64 n, .int .i64 0, .int .i64 0, .slice none 0 0, .slice none 0 0, .bool false]) (Row.range (ra.below hS9.1 ra.lt)) Try.underlying112 rfl (by exact info112) rfl)); simp only [Act.put, zA, zB, zC, Nat.reduceAdd]
  refine late_pure (by simp) (fun _ => trivial) (v := .agg #[.int .i64 n, .int .i64 0, .int .i64 0, .slice none 0 0, .slice none 0 0, .bool false]) (fun _ => rfl) ?_ ?_; (focus (intro c9 us w9 hm9 hS9 hF; exact exec_load_g (cs := #[.int .i64 n, .int .i64 0, .int .i64 0, .slice none 0 0, .slice none 0 0, .bool false]) (Row.range (rb.below hS9.1 rb.lt)) Try.underlying112 rfl (by exact info112) rfl)); simp only [Act.put, zA, zB, zC, Nat.reduceAdd]
  iterate 2 (refine late_pure (by simp) (fun _ => trivial) (v := ?_) (fun _ => rfl) ?_ ?_; rotate_left; (focus (intro c9 us w9 hm9 hS9 hF; clear hF hm9; go_simp; (try with_reducible rfl); done)); simp only [Act.put, zA, zB, zC, Nat.reduceAdd])
  refine late_chain_fix (.pointer (some ⟨wd.heap.size, 0, none⟩)) (by simp) ?_ ?_; (focus (intro us w9 hS9 hF K hK; clear hF; obtain rfl := hS9.2.1 rfl; go_simp; exact hK _ ⟨hS9.1.alloc (Nat.le_refl _) _, fun h => by omega, fun _ => ⟨if_pos rfl, rfl⟩⟩ trivial)); simp only [Act.put, zA, zB, zC, Nat.reduceAdd]
  iterate 12 (refine late_pure (by simp) (fun _ => trivial) (v := ?_) (fun _ => rfl) ?_ ?_; rotate_left; (focus (intro c9 us w9 hm9 hS9 hF; have b0 := (hS9.1.cell (p := ⟨g5, 0, none⟩) hl5).trans q0; clear hF hm9; go_simp; (try with_reducible rfl); done)); simp only [Act.put, zA, zB, zC, Nat.reduceAdd])
  refine late_pure (by simp) (fun _ => trivial) (v := .pointer (some ⟨wd.heap.size, 0, none⟩)) (fun _ => rfl) ?_ ?_; (focus (intro c9 us w9 hm9 hS9 hF; have b0 := (hS9.1.cell (p := ⟨g5, 0, none⟩) hl5).trans q0; have e5 := hF (4, fun u _ => u = .pointer (some ⟨wd.heap.size, 0, none⟩)) (by simp) (by kernel_rfl); dsimp only at e5; clear hF hm9; go_simp; (try with_reducible rfl); done)); simp only [Act.put, zA, zB, zC, Nat.reduceAdd]
  refine late_pure (by simp) (fun _ => trivial) (v := ?_) (fun _ => rfl) ?_ ?_; rotate_left; (focus (intro c9 us w9 hm9 hS9 hF; have b0 := (hS9.1.cell (p := ⟨g5, 0, none⟩) hl5).trans q0; clear hF hm9; go_simp; (try with_reducible rfl); done)); simp only [Act.put, zA, zB, zC, Nat.reduceAdd]
  refine late_done fun us wf hS8 hF => ?_
  obtain ⟨hu4, hwf⟩ := hS8.2.2 (by omega)
  have hbf := hS8.1
  clear hF hS8
  simp only [hu4]
  clear hu4
  go_wp2
  have hg : base ≤ wd.heap.size := Nat.le_trans hb0 hBW2.size
  have hr : Row wf wd.heap.size 116 (CCell (newCn n) newCP).toArray := by rw [hwf]; exact Row.born _ _ _
  refine bodyPost_ret (v := .tuple #[.pointer (some ⟨wd.heap.size, 0, none⟩), .bool true]) (by simp [results, Try.results67, go_sem]) rfl ?_
  exact ⟨wd.heap.size, n, _, newCP, n1, n2, rfl, newCM hr hg, fun x hx => paint_other hx, hBW2.trans (hbf.mono hBW2.size)⟩
end
end Go.Proofs.Ythjkhambmgepdaa
