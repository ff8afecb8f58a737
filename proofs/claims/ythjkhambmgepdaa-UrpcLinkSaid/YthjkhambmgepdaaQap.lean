/- Texts Vx, without what this claim does not use. -/
import Derived.Test.YthjkhambmgepdaaQao
namespace Go.Proofs.Ythjkhambmgepdaa
section
open Go.RowKit
set_option linter.unusedVariables false
set_option linter.unusedSimpArgs false
def UcS.I (S : UcS) : Nat → List Int
  | 0 => S.V 0
  | 1 => S.V 1
  | 2 => S.A 0
  | 3 => S.A 1
  | 4 => S.O 0
  | _ => S.O 1
def UcS.cn (S : UcS) (Z : Nat → List (List UInt8)) : CnS := ⟨S.E, Z, S.I⟩
theorem CM.same {base g : Nat} {col : Nat → Nat} {w : World} {C C' : CnS} {p : CnP} (h : CM base g col w C p) (hE : ∀ s, s < 2 → C'.E s = C.E s) (hZ : ∀ s, s < 2 → C'.Z s = C.Z s) (hI : ∀ i, i < 6 → C'.I i = C.I i) : CM base g col w C' p := by
  refine ⟨?_, h.cg, h.cb, h.cn, fun s hs => ?_, fun s hs => ?_, fun i hi => ?_⟩
  · have : CCell C' p = CCell C p := by
      unfold CCell
      rw [hE 0 (by omega), hE 1 (by omega), hZ 0 (by omega), hZ 1 (by omega), hI 0 (by omega), hI 1 (by omega), hI 2 (by omega), hI 3 (by omega), hI 4 (by omega), hI 5 (by omega)]
    rw [this]
    exact h.row
  · rw [hE s hs]; exact h.held s hs
  · rw [hZ s hs]; exact h.way s hs
  · rw [hI i hi]; exact h.ints i hi
def RelF (S : UcS) (F : Nat → List RM) (Z : Nat → List (List UInt8)) : Prop := ∀ s, s < 2 → ∃ ms, S.Y s = F s ++ ms ∧ Z s = ms.map RM.by
def CPost (Q : UcS → (Nat → List RM) → Prop) (base g : Nat) (col : Nat → Nat) (w : World) (en : Ending) (W' : World) : Prop := en = .returned (.bool true) ∧ ∃ S' F' Z' col' p', Q S' F' ∧ RelF S' F' Z' ∧ CM base g col' W' (S'.cn Z') p' ∧ White col w W' ∧ ∀ x, x < w.heap.size → Out (col x) → col' x = col x
theorem CPost.mono {Q Q' : UcS → (Nat → List RM) → Prop} {base g : Nat} {col : Nat → Nat} {w : World} {en : Ending} {W' : World} (h : CPost Q base g col w en W') (hQ : ∀ S F, Q S F → Q' S F) : CPost Q' base g col w en W' := by
  obtain ⟨e, S, F, Z, c, p, h1, h2⟩ := h
  exact ⟨e, S, F, Z, c, p, hQ _ _ h1, h2⟩
theorem ylen {N : Int} {c : Nat} {S : UcS} (h : UInv N c S) {s : Nat} (hs : s < 2) : (S.Y s).length ≤ 32 := by
  have h1 := uc_yl (S.Y s)
  have a := (h.sd hs).dir
  have b := (h.sd' hs).dir
  have := a.sl
  have := b.sl
  have := a.cl
  have := b.cl
  have := h.n2
  omega
theorem zlen {N : Int} {c : Nat} {S : UcS} {F : Nat → List RM} {Z : Nat → List (List UInt8)} (h : UInv N c S) (hR : RelF S F Z) {s : Nat} (hs : s < 2) : (Z s).length ≤ 32 := by
  obtain ⟨ms, h1, h2⟩ := hR s hs
  have := ylen h hs
  rw [h1, List.length_append] at this
  rw [h2, List.length_map]
  omega
theorem ilen {N : Int} {c : Nat} {S : UcS} (h : UInv N c S) (i : Nat) : (S.I i).length ≤ c := by
  have a := h.d0
  have b := h.d1
  have := a.lc
  have := b.lc
  have := a.dir.ol
  have := b.dir.ol
  have := a.dir.al
  have := b.dir.al
  match i with
  | 0 => show (S.V 0).length ≤ c; omega
  | 1 => show (S.V 1).length ≤ c; omega
  | 2 => show (S.A 0).length ≤ c; omega
  | 3 => show (S.A 1).length ≤ c; omega
  | 4 => show (S.O 0).length ≤ c; omega
  | i + 5 => show (S.O 1).length ≤ c; omega
theorem cslen {N : Int} {c : Nat} {S : UcS} (h : UInv N c S) {s : Nat} (hs : s < 2) : (S.E s).cs.length ≤ 16 ∧ (S.E s).ss.length ≤ 16 := by
  have a := (h.sd hs).dir
  have b := (h.sd' hs).dir
  have := b.sl
  have := a.cl
  have := b.cl
  have := h.n2
  omega
theorem by_len {m : RM} (h : m.ok = true) (hb : m.b.length ≤ 1000) : m.by.length ≤ 1100 := by
  have hk := RM.ok_iff.1 h
  have k1 := uB_small m.k.toNat (by have := hk.k; omega)
  have k2 := uB_small m.n.toNat (by have := hk.n1; omega)
  have k3 := uB_small m.d.toNat (by have := hk.d; omega)
  have k4 := uB_small m.b.length (by omega)
  unfold RM.by
  simp only [List.length_append]
  omega
theorem msg_len {N : Int} {c : Nat} {S : UcS} (h : UInv N c S) {s : Nat} (hs : s < 2) {m : RM} (hm : m ∈ S.Y s) : m.by.length ≤ 1100 := by
  refine by_len (MsgOk.isOk h hs hm) ?_
  obtain ⟨k, v, h1 | h1⟩ := (h.sd hs).msg m hm <;> rw [h1.2] <;> show (wdB v).length ≤ 1000 <;> rw [wdB_len] <;> omega
theorem UInv.more {N : Int} {c c' : Nat} {S : UcS} (h : UInv N c S) (h1 : c ≤ c') (h2 : c' ≤ 1000000) : UInv N c' S :=
  ⟨h.n1, h.n2, h2, ⟨h.d0.cr, h.d0.dd, Nat.le_trans h.d0.lc h1, h.d0.dir, h.d0.msg⟩, ⟨h.d1.cr, h.d1.dd, Nat.le_trans h.d1.lc h1, h.d1.dir, h.d1.msg⟩⟩
theorem st_call0 {base g : Nat} {col : Nat → Nat} {w : World} {S : UcS} {F : Nat → List RM} {Z : Nat → List (List UInt8)} {p : CnP} {N : Int} {c : Nat} (hM : CM base g col w (S.cn Z) p) (hI : UInv N c S) (hR : RelF S F Z) (hc : c ≤ 1000) {v : Int} (v0 : 0 ≤ v) (v1 : v ≤ 65535) : Calls Try.prog 117 #[.pointer (some ⟨g, 0, none⟩), .int .i64 0, .int .i64 v] w (CPost (fun S' F' => F' = F ∧ UInv N (c + 1) S' ∧ (S' = S ∨ ∃ v, S' = callS S 0 v)) base g col w) := by
  have a := hI.sd (s := 0) (by omega)
  have hcs := cslen hI (s := 0) (by omega)
  by_cases hf : ((S.E 0).cs.length : Int) = (S.E 0).cr
  · refine (cn_call_full0 base g col w (S.cn Z) p hM v v0 v1 (uc_full hI (s := 0) (by omega) v0 v1 hf) (by show (S.E 0).cr ≤ ((S.E 0).cs.length : Int); omega)).mono ?_
    rintro en W' ⟨h1, col', p', h2, h3, h4⟩
    exact ⟨h1, S, F, Z, col', p', ⟨rfl, hI.more (by omega) (by omega), .inl rfl⟩, hR, h2, h3, h4⟩
  · obtain ⟨hE, hla, hI'⟩ := uc_go hI (s := 0) (by omega) v0 v1 hf (by omega)
    have hcl := a.dir.cl
    have hcr := a.cr
    refine (cn_call0 base g col w (S.cn Z) p hM v v0 v1 hE (by show ((S.E 0).cs.length : Int) < (S.E 0).cr; omega) hla (by show (S.E 0).cs.length ≤ 100; omega) (by show (S.E 0).ss.length ≤ 100; omega) (by have := zlen hI hR (s := 1) (by omega); show (Z 1).length ≤ 100000; omega) (fun i => by have := ilen hI i; show (S.I i).length ≤ 100000; omega)).mono ?_
    rintro en W' ⟨h1, col', p', h2, h3, h4⟩
    have hbs : (rqM ((S.I 0).length + 1) v (wdB v)).by = (rqM ((S.E 0).la + 1) v (wdB v)).by := by rw [hla]; rfl
    refine ⟨h1, callS S 0 v, F, upd Z 1 (Z 1 ++ [(rqM ((S.E 0).la + 1) v (wdB v)).by]), col', p', ⟨rfl, hI', .inr ⟨v, rfl⟩⟩, fun t ht => ?_, h2.same (fun t ht => ?_) (fun t ht => ?_) (fun i hi => ?_), h3, h4⟩
    · obtain ⟨ms, k1, k2⟩ := hR t ht
      rcases (by omega : t = 0 ∨ t = 1) with rfl | rfl
      · refine ⟨ms, ?_, ?_⟩
        · show upd S.Y 1 (S.Y 1 ++ [rqM ((S.E 0).la + 1) v (wdB v)]) 0 = _
          rw [upd_other (by omega)]; exact k1
        · rw [upd_other (by omega)]; exact k2
      · refine ⟨ms ++ [rqM ((S.E 0).la + 1) v (wdB v)], ?_, ?_⟩
        · show upd S.Y 1 (S.Y 1 ++ [rqM ((S.E 0).la + 1) v (wdB v)]) 1 = _
          rw [upd_self]
          show S.Y 1 ++ _ = _
          rw [k1, List.append_assoc]
        · rw [upd_self, k2, List.map_append]; rfl
    · rfl
    · show upd Z 1 (Z 1 ++ [(rqM ((S.E 0).la + 1) v (wdB v)).by]) t = upd Z 1 (Z 1 ++ [(rqM ((S.I 0).length + 1) v (wdB v)).by]) t
      rw [hbs]
    · match i, hi with
      | 0, _ => rfl
      | 1, _ => rfl
      | 2, _ => rfl
      | 3, _ => rfl
      | 4, _ => rfl
      | 5, _ => rfl
theorem st_rep0 {base g : Nat} {col : Nat → Nat} {w : World} {S : UcS} {F : Nat → List RM} {Z : Nat → List (List UInt8)} {p : CnP} {N : Int} {c : Nat} (hM : CM base g col w (S.cn Z) p) (hI : UInv N c S) (hR : RelF S F Z) (hc : c ≤ 1000) (which : Int) : Calls Try.prog 69 #[.pointer (some ⟨g, 0, none⟩), .int .i64 0, .int .i64 which] w (CPost (fun S' F' => F' = F ∧ UInv N c S' ∧ ((S' = S ∧ (S.E 0).ss = []) ∨ ∃ n v, n ∈ (S.E 0).ss ∧ S' = repS S 0 n v)) base g col w) := by
  have hcs := cslen hI (s := 0) (by omega)
  by_cases hnil : (S.E 0).ss = []
  · refine (cn_rep_nil0 base g col w (S.cn Z) p hM which hnil).mono ?_
    rintro en W' ⟨h1, col', p', h2, h3, h4⟩
    exact ⟨h1, S, F, Z, col', p', ⟨rfl, hI, .inl ⟨rfl, hnil⟩⟩, hR, h2, h3, h4⟩
  · have hpos : 0 < (S.E 0).ss.length := List.length_pos_iff.2 hnil
    obtain ⟨k, hk⟩ : ∃ k : Nat, which % ((S.E 0).ss.length : Int) = k := ⟨(which % ((S.E 0).ss.length : Int)).toNat, by have := Int.emod_nonneg which (show ((S.E 0).ss.length : Int) ≠ 0 by omega); omega⟩
    have hkl : k < (S.E 0).ss.length := by have := Int.emod_lt_of_pos which (show (0 : Int) < ((S.E 0).ss.length : Int) by omega); omega
    obtain ⟨n, hn⟩ : ∃ n, (S.E 0).ss[k]? = some n := ⟨_, List.getElem?_eq_getElem hkl⟩
    have hmem := List.mem_of_getElem? hn
    obtain ⟨n1, n2, v, hv, v0, v1, hE, hI'⟩ := uc_rep hI (s := 0) (by omega) hmem
    obtain ⟨m, rfl⟩ : ∃ m : Nat, n = (m : Int) + 1 := ⟨(n - 1).toNat, by omega⟩
    have hv : (S.A 0)[m]? = some v := by rw [← hv]; congr 1; omega
    refine (cn_rep0 base g col w (S.cn Z) p hM which hk hn hv v0 v1 hE (by show (S.E 0).cs.length ≤ 100; omega) (by show (S.E 0).ss.length ≤ 100; omega) (by have := zlen hI hR (s := 1) (by omega); show (Z 1).length ≤ 100000; omega) (by have := ilen hI 2; show (S.I 2).length ≤ 100000; omega)).mono ?_
    rintro en W' ⟨h1, col', p', h2, h3, h4⟩
    refine ⟨h1, repS S 0 ((m : Int) + 1) v, F, upd Z 1 (Z 1 ++ [(rpM ((m : Int) + 1) 0 (wdB v)).by]), col', p', ⟨rfl, hI', .inr ⟨_, v, hmem, rfl⟩⟩, fun t ht => ?_, h2.same (fun t ht => rfl) (fun t ht => rfl) (fun i hi => ?_), h3, h4⟩
    · obtain ⟨ms, k1, k2⟩ := hR t ht
      by_cases e : t = 1
      · subst e
        refine ⟨ms ++ [rpM ((m : Int) + 1) 0 (wdB v)], ?_, ?_⟩
        · show upd S.Y 1 _ 1 = _
          rw [upd_self]
          show S.Y 1 ++ _ = _
          rw [k1, List.append_assoc]
        · rw [upd_self, k2, List.map_append]; rfl
      · refine ⟨ms, ?_, ?_⟩
        · show upd S.Y 1 _ t = _
          rw [upd_other e]; exact k1
        · rw [upd_other e]; exact k2
    · match i, hi with
      | 0, _ => rfl
      | 1, _ => rfl
      | 2, _ => rfl
      | 3, _ => rfl
      | 4, _ => rfl
      | 5, _ => rfl
theorem st_rcv0 {base g : Nat} {col : Nat → Nat} {w : World} {S : UcS} {Z : Nat → List (List UInt8)} {p : CnP} {N : Int} {c : Nat} (hM : CM base g col w (S.cn Z) p) (hI : UInv N c S) (hc : c ≤ 1000) {m : RM} {F0 : Nat → List RM} {ys : List RM} (hY : S.Y 0 = m :: ys) (hR0 : RelF { S with Y := upd S.Y 0 ys } F0 Z) {D : Option Addr} {dc : Nat} (hD : Part col 0 w (fun w => IsB w D m.by.length m.by)) (hdc : m.by.length ≤ dc) : Calls Try.prog 87 #[.pointer (some ⟨g, 0, none⟩), .int .i64 0, .slice D m.by.length dc] w (CPost (fun S' F' => F' = F0 ∧ UInv N c S' ∧ S' = rcvS S 0 m ys) base g col w) := by
  have hcs := cslen hI (s := 0) (by omega)
  have hml := msg_len hI (s := 0) (by omega) (m := m) (by rw [hY]; exact List.mem_cons_self ..)
  by_cases hk : m.k = 1
  · obtain ⟨hE, hm, hU, hn, hl, hv, hw, hI'⟩ := uc_req hI (s := 0) (by omega) hY hk
    obtain ⟨k, n, sv, e, b⟩ := m
    have hk : k = 1 := hk
    have hn : n = ((S.A 0).length : Int) + 1 := hn
    subst hk hn
    refine (cn_take_req0 base g col w (S.cn Z) p hM (L := (S.A 0).length) (v := sv) (er := e) (bd := b) hD (by omega) hdc hE hm rfl hv hw ?_ ?_ (fun i => by have := ilen hI i; show (S.I i).length ≤ 100000; omega)).mono ?_
    · show (rcvU (S.E 0) _).cs.length ≤ 1000
      rw [hU]; show (S.E 0).cs.length ≤ 1000; omega
    · show (rcvU (S.E 0) _).ss.length ≤ 1000
      rw [hU]; simp; omega
    rintro en W' ⟨h1, col', p', h2, h3, h4⟩
    have hS : rcvS S 0 ⟨1, ((S.A 0).length : Int) + 1, sv, e, b⟩ ys = { S with E := upd S.E 0 { S.E 0 with se := ((S.A 0).length : Int) + 1, ss := (S.E 0).ss ++ [((S.A 0).length : Int) + 1] }, Y := upd S.Y 0 ys, A := upd S.A 0 (S.A 0 ++ [sv]) } := rfl
    refine ⟨h1, _, F0, Z, col', p', ⟨rfl, hI', rfl⟩, fun t ht => hR0 t ht, h2.same (fun t ht => ?_) (fun t ht => rfl) (fun i hi => ?_), h3, h4⟩
    · show upd S.E 0 _ t = upd S.E 0 (rcvU (S.E 0) _) t
      rw [hU]
    · match i, hi with
      | 0, _ => rfl
      | 1, _ => rfl
      | 2, _ => rfl
      | 3, _ => rfl
      | 4, _ => rfl
      | 5, _ => rfl
  · obtain ⟨hk2, hE, hm, hU, k, hn, hkO, hO, hv, hI'⟩ := uc_ans hI (s := 0) (by omega) hY hk
    obtain ⟨k2, n, sv, e, b⟩ := m
    have hk2 : k2 = 2 := hk2
    have hn : n = (k : Int) + 1 := hn
    subst hk2 hn
    refine (cn_take_rep0 base g col w (S.cn Z) p hM (k := k) (v := wdN b) (s0 := sv) (er := e) (bd := b) hD (by omega) hdc hE hm hO hv rfl ?_ ?_ (fun i => by have := ilen hI i; show (S.I i).length ≤ 100000; omega)).mono ?_
    · show (rcvU (S.E 0) _).cs.length ≤ 1000
      rw [hU]
      have := List.length_erase_le (l := (S.E 0).cs) (a := (k : Int) + 1)
      show ((S.E 0).cs.erase ((k : Int) + 1)).length ≤ 1000
      omega
    · show (rcvU (S.E 0) _).ss.length ≤ 1000
      rw [hU]; show (S.E 0).ss.length ≤ 1000; omega
    rintro en W' ⟨h1, col', p', h2, h3, h4⟩
    have hkn : ((k : Int) + 1 - 1).toNat = k := by omega
    have hS : rcvS S 0 ⟨2, (k : Int) + 1, sv, e, b⟩ ys = { S with E := upd S.E 0 { S.E 0 with cs := (S.E 0).cs.erase ((k : Int) + 1) }, Y := upd S.Y 0 ys, O := upd S.O 0 ((S.O 0).set ((k : Int) + 1 - 1).toNat 1) } := rfl
    rw [hkn] at hS
    refine ⟨h1, _, F0, Z, col', p', ⟨rfl, hI', rfl⟩, ?_, ?_, h3, h4⟩
    · rw [hS]
      exact fun t ht => hR0 t ht
    · rw [hS]
      refine h2.same (fun t ht => ?_) (fun t ht => rfl) (fun i hi => ?_)
      · show upd S.E 0 _ t = upd S.E 0 (rcvU (S.E 0) _) t
        rw [hU]
      · match i, hi with
        | 0, _ => rfl
        | 1, _ => rfl
        | 2, _ => rfl
        | 3, _ => rfl
        | 4, _ => rfl
        | 5, _ => rfl
theorem st_call1 {base g : Nat} {col : Nat → Nat} {w : World} {S : UcS} {F : Nat → List RM} {Z : Nat → List (List UInt8)} {p : CnP} {N : Int} {c : Nat} (hM : CM base g col w (S.cn Z) p) (hI : UInv N c S) (hR : RelF S F Z) (hc : c ≤ 1000) {v : Int} (v0 : 0 ≤ v) (v1 : v ≤ 65535) : Calls Try.prog 117 #[.pointer (some ⟨g, 0, none⟩), .int .i64 1, .int .i64 v] w (CPost (fun S' F' => F' = F ∧ UInv N (c + 1) S' ∧ (S' = S ∨ ∃ v, S' = callS S 1 v)) base g col w) := by
  have a := hI.sd (s := 1) (by omega)
  have hcs := cslen hI (s := 1) (by omega)
  by_cases hf : ((S.E 1).cs.length : Int) = (S.E 1).cr
  · refine (cn_call_full1 base g col w (S.cn Z) p hM v v0 v1 (uc_full hI (s := 1) (by omega) v0 v1 hf) (by show (S.E 1).cr ≤ ((S.E 1).cs.length : Int); omega)).mono ?_
    rintro en W' ⟨h1, col', p', h2, h3, h4⟩
    exact ⟨h1, S, F, Z, col', p', ⟨rfl, hI.more (by omega) (by omega), .inl rfl⟩, hR, h2, h3, h4⟩
  · obtain ⟨hE, hla, hI'⟩ := uc_go hI (s := 1) (by omega) v0 v1 hf (by omega)
    have hcl := a.dir.cl
    have hcr := a.cr
    refine (cn_call1 base g col w (S.cn Z) p hM v v0 v1 hE (by show ((S.E 1).cs.length : Int) < (S.E 1).cr; omega) hla (by show (S.E 1).cs.length ≤ 100; omega) (by show (S.E 1).ss.length ≤ 100; omega) (by have := zlen hI hR (s := 0) (by omega); show (Z 0).length ≤ 100000; omega) (fun i => by have := ilen hI i; show (S.I i).length ≤ 100000; omega)).mono ?_
    rintro en W' ⟨h1, col', p', h2, h3, h4⟩
    have hbs : (rqM ((S.I 1).length + 1) v (wdB v)).by = (rqM ((S.E 1).la + 1) v (wdB v)).by := by rw [hla]; rfl
    refine ⟨h1, callS S 1 v, F, upd Z 0 (Z 0 ++ [(rqM ((S.E 1).la + 1) v (wdB v)).by]), col', p', ⟨rfl, hI', .inr ⟨v, rfl⟩⟩, fun t ht => ?_, h2.same (fun t ht => ?_) (fun t ht => ?_) (fun i hi => ?_), h3, h4⟩
    · obtain ⟨ms, k1, k2⟩ := hR t ht
      rcases (by omega : t = 0 ∨ t = 1) with rfl | rfl
      · refine ⟨ms ++ [rqM ((S.E 1).la + 1) v (wdB v)], ?_, ?_⟩
        · show upd S.Y 0 (S.Y 0 ++ [rqM ((S.E 1).la + 1) v (wdB v)]) 0 = _
          rw [upd_self]
          show S.Y 0 ++ _ = _
          rw [k1, List.append_assoc]
        · rw [upd_self, k2, List.map_append]; rfl
      · refine ⟨ms, ?_, ?_⟩
        · show upd S.Y 0 (S.Y 0 ++ [rqM ((S.E 1).la + 1) v (wdB v)]) 1 = _
          rw [upd_other (by omega)]; exact k1
        · rw [upd_other (by omega)]; exact k2
    · rfl
    · show upd Z 0 (Z 0 ++ [(rqM ((S.E 1).la + 1) v (wdB v)).by]) t = upd Z 0 (Z 0 ++ [(rqM ((S.I 1).length + 1) v (wdB v)).by]) t
      rw [hbs]
    · match i, hi with
      | 0, _ => rfl
      | 1, _ => rfl
      | 2, _ => rfl
      | 3, _ => rfl
      | 4, _ => rfl
      | 5, _ => rfl
theorem st_rep1 {base g : Nat} {col : Nat → Nat} {w : World} {S : UcS} {F : Nat → List RM} {Z : Nat → List (List UInt8)} {p : CnP} {N : Int} {c : Nat} (hM : CM base g col w (S.cn Z) p) (hI : UInv N c S) (hR : RelF S F Z) (hc : c ≤ 1000) (which : Int) : Calls Try.prog 69 #[.pointer (some ⟨g, 0, none⟩), .int .i64 1, .int .i64 which] w (CPost (fun S' F' => F' = F ∧ UInv N c S' ∧ ((S' = S ∧ (S.E 1).ss = []) ∨ ∃ n v, n ∈ (S.E 1).ss ∧ S' = repS S 1 n v)) base g col w) := by
  have hcs := cslen hI (s := 1) (by omega)
  by_cases hnil : (S.E 1).ss = []
  · refine (cn_rep_nil1 base g col w (S.cn Z) p hM which hnil).mono ?_
    rintro en W' ⟨h1, col', p', h2, h3, h4⟩
    exact ⟨h1, S, F, Z, col', p', ⟨rfl, hI, .inl ⟨rfl, hnil⟩⟩, hR, h2, h3, h4⟩
  · have hpos : 0 < (S.E 1).ss.length := List.length_pos_iff.2 hnil
    obtain ⟨k, hk⟩ : ∃ k : Nat, which % ((S.E 1).ss.length : Int) = k := ⟨(which % ((S.E 1).ss.length : Int)).toNat, by have := Int.emod_nonneg which (show ((S.E 1).ss.length : Int) ≠ 0 by omega); omega⟩
    have hkl : k < (S.E 1).ss.length := by have := Int.emod_lt_of_pos which (show (0 : Int) < ((S.E 1).ss.length : Int) by omega); omega
    obtain ⟨n, hn⟩ : ∃ n, (S.E 1).ss[k]? = some n := ⟨_, List.getElem?_eq_getElem hkl⟩
    have hmem := List.mem_of_getElem? hn
    obtain ⟨n1, n2, v, hv, v0, v1, hE, hI'⟩ := uc_rep hI (s := 1) (by omega) hmem
    obtain ⟨m, rfl⟩ : ∃ m : Nat, n = (m : Int) + 1 := ⟨(n - 1).toNat, by omega⟩
    have hv : (S.A 1)[m]? = some v := by rw [← hv]; congr 1; omega
    refine (cn_rep1 base g col w (S.cn Z) p hM which hk hn hv v0 v1 hE (by show (S.E 1).cs.length ≤ 100; omega) (by show (S.E 1).ss.length ≤ 100; omega) (by have := zlen hI hR (s := 0) (by omega); show (Z 0).length ≤ 100000; omega) (by have := ilen hI 3; show (S.I 3).length ≤ 100000; omega)).mono ?_
    rintro en W' ⟨h1, col', p', h2, h3, h4⟩
    refine ⟨h1, repS S 1 ((m : Int) + 1) v, F, upd Z 0 (Z 0 ++ [(rpM ((m : Int) + 1) 0 (wdB v)).by]), col', p', ⟨rfl, hI', .inr ⟨_, v, hmem, rfl⟩⟩, fun t ht => ?_, h2.same (fun t ht => rfl) (fun t ht => rfl) (fun i hi => ?_), h3, h4⟩
    · obtain ⟨ms, k1, k2⟩ := hR t ht
      by_cases e : t = 0
      · subst e
        refine ⟨ms ++ [rpM ((m : Int) + 1) 0 (wdB v)], ?_, ?_⟩
        · show upd S.Y 0 _ 0 = _
          rw [upd_self]
          show S.Y 0 ++ _ = _
          rw [k1, List.append_assoc]
        · rw [upd_self, k2, List.map_append]; rfl
      · refine ⟨ms, ?_, ?_⟩
        · show upd S.Y 0 _ t = _
          rw [upd_other e]; exact k1
        · rw [upd_other e]; exact k2
    · match i, hi with
      | 0, _ => rfl
      | 1, _ => rfl
      | 2, _ => rfl
      | 3, _ => rfl
      | 4, _ => rfl
      | 5, _ => rfl
theorem st_rcv1 {base g : Nat} {col : Nat → Nat} {w : World} {S : UcS} {Z : Nat → List (List UInt8)} {p : CnP} {N : Int} {c : Nat} (hM : CM base g col w (S.cn Z) p) (hI : UInv N c S) (hc : c ≤ 1000) {m : RM} {F0 : Nat → List RM} {ys : List RM} (hY : S.Y 1 = m :: ys) (hR0 : RelF { S with Y := upd S.Y 1 ys } F0 Z) {D : Option Addr} {dc : Nat} (hD : Part col 0 w (fun w => IsB w D m.by.length m.by)) (hdc : m.by.length ≤ dc) : Calls Try.prog 87 #[.pointer (some ⟨g, 0, none⟩), .int .i64 1, .slice D m.by.length dc] w (CPost (fun S' F' => F' = F0 ∧ UInv N c S' ∧ S' = rcvS S 1 m ys) base g col w) := by
  have hcs := cslen hI (s := 1) (by omega)
  have hml := msg_len hI (s := 1) (by omega) (m := m) (by rw [hY]; exact List.mem_cons_self ..)
  by_cases hk : m.k = 1
  · obtain ⟨hE, hm, hU, hn, hl, hv, hw, hI'⟩ := uc_req hI (s := 1) (by omega) hY hk
    obtain ⟨k, n, sv, e, b⟩ := m
    have hk : k = 1 := hk
    have hn : n = ((S.A 1).length : Int) + 1 := hn
    subst hk hn
    refine (cn_take_req1 base g col w (S.cn Z) p hM (L := (S.A 1).length) (v := sv) (er := e) (bd := b) hD (by omega) hdc hE hm rfl hv hw ?_ ?_ (fun i => by have := ilen hI i; show (S.I i).length ≤ 100000; omega)).mono ?_
    · show (rcvU (S.E 1) _).cs.length ≤ 1000
      rw [hU]; show (S.E 1).cs.length ≤ 1000; omega
    · show (rcvU (S.E 1) _).ss.length ≤ 1000
      rw [hU]; simp; omega
    rintro en W' ⟨h1, col', p', h2, h3, h4⟩
    have hS : rcvS S 1 ⟨1, ((S.A 1).length : Int) + 1, sv, e, b⟩ ys = { S with E := upd S.E 1 { S.E 1 with se := ((S.A 1).length : Int) + 1, ss := (S.E 1).ss ++ [((S.A 1).length : Int) + 1] }, Y := upd S.Y 1 ys, A := upd S.A 1 (S.A 1 ++ [sv]) } := rfl
    refine ⟨h1, _, F0, Z, col', p', ⟨rfl, hI', rfl⟩, fun t ht => hR0 t ht, h2.same (fun t ht => ?_) (fun t ht => rfl) (fun i hi => ?_), h3, h4⟩
    · show upd S.E 1 _ t = upd S.E 1 (rcvU (S.E 1) _) t
      rw [hU]
    · match i, hi with
      | 0, _ => rfl
      | 1, _ => rfl
      | 2, _ => rfl
      | 3, _ => rfl
      | 4, _ => rfl
      | 5, _ => rfl
  · obtain ⟨hk2, hE, hm, hU, k, hn, hkO, hO, hv, hI'⟩ := uc_ans hI (s := 1) (by omega) hY hk
    obtain ⟨k2, n, sv, e, b⟩ := m
    have hk2 : k2 = 2 := hk2
    have hn : n = (k : Int) + 1 := hn
    subst hk2 hn
    refine (cn_take_rep1 base g col w (S.cn Z) p hM (k := k) (v := wdN b) (s0 := sv) (er := e) (bd := b) hD (by omega) hdc hE hm hO hv rfl ?_ ?_ (fun i => by have := ilen hI i; show (S.I i).length ≤ 100000; omega)).mono ?_
    · show (rcvU (S.E 1) _).cs.length ≤ 1000
      rw [hU]
      have := List.length_erase_le (l := (S.E 1).cs) (a := (k : Int) + 1)
      show ((S.E 1).cs.erase ((k : Int) + 1)).length ≤ 1000
      omega
    · show (rcvU (S.E 1) _).ss.length ≤ 1000
      rw [hU]; show (S.E 1).ss.length ≤ 1000; omega
    rintro en W' ⟨h1, col', p', h2, h3, h4⟩
    have hkn : ((k : Int) + 1 - 1).toNat = k := by omega
    have hS : rcvS S 1 ⟨2, (k : Int) + 1, sv, e, b⟩ ys = { S with E := upd S.E 1 { S.E 1 with cs := (S.E 1).cs.erase ((k : Int) + 1) }, Y := upd S.Y 1 ys, O := upd S.O 1 ((S.O 1).set ((k : Int) + 1 - 1).toNat 1) } := rfl
    rw [hkn] at hS
    refine ⟨h1, _, F0, Z, col', p', ⟨rfl, hI', rfl⟩, ?_, ?_, h3, h4⟩
    · rw [hS]
      exact fun t ht => hR0 t ht
    · rw [hS]
      refine h2.same (fun t ht => ?_) (fun t ht => rfl) (fun i hi => ?_)
      · show upd S.E 1 _ t = upd S.E 1 (rcvU (S.E 1) _) t
        rw [hU]
      · match i, hi with
        | 0, _ => rfl
        | 1, _ => rfl
        | 2, _ => rfl
        | 3, _ => rfl
        | 4, _ => rfl
        | 5, _ => rfl
set_option maxRecDepth 100000 in
set_option maxHeartbeats 8000000 in
theorem do_call0 {base g : Nat} {col : Nat → Nat} {w : World} {S : UcS} {F : Nat → List RM} {Z : Nat → List (List UInt8)} {p : CnP} {N : Int} {c : Nat} (hM : CM base g col w (S.cn Z) p) (hI : UInv N c S) (hR : RelF S F Z) (hc : c ≤ 1000) {kd sd sv : Int} (hs : bits .and .i64 sd 1 = 0) (hk : kd % 3 = 0) : Calls Try.prog 68 #[.pointer (some ⟨g, 0, none⟩), .agg #[.int .i64 kd, .int .i64 sd, .int .i64 sv]] w (CPost (fun S' F' => F' = F ∧ UInv N (c + 1) S' ∧ (S' = S ∨ ∃ v, S' = callS S 0 v)) base g col w) := by
  have HK := Lib.hid hk
  obtain ⟨q, hq⟩ : ∃ q, sv % 65536 = q := ⟨_, rfl⟩
  have HQ := Lib.hid hq
  have q0 : 0 ≤ q := by rw [← hq]; exact Int.emod_nonneg _ (by omega)
  have q1 : q ≤ 65535 := by rw [← hq]; have := Int.emod_lt_of_pos sv (show (0 : Int) < 65536 by omega); omega
  clear hk hq
  have hal := (Below.refl w.heap.size w).alloc (Nat.le_refl _) (.cells #[.int .i64 kd, .int .i64 sd, .int .i64 sv] 110)
  have rs := Row.born w 110 #[.int .i64 kd, .int .i64 sd, .int .i64 sv]
  have hMs := hM.below hal
  have hWs := White.below (col := col) hal
  go_enter Try.func68, Try.ntmps68
  go_upto_region 1 with (fail)
  generalize w.alloc (.cells #[.int .i64 kd, .int .i64 sd, .int .i64 sv] 110) = ws at *
  generalize w.heap.size = gs at *
  have s0 : ws.cell? ⟨gs, 0, none⟩ = some (.int .i64 kd) := rs.cell 0
  have s1 : ws.cell? ⟨gs, 1, none⟩ = some (.int .i64 sd) := rs.cell 1
  have s2 : ws.cell? ⟨gs, 2, none⟩ = some (.int .i64 sv) := rs.cell 2
  clear rs hal
  go_wp2_with (first | (go_at_call 20; (with_reducible refine (place_is HK.out (by omega) (by omega) _).mono ?_); rintro en w' ⟨rfl, h9⟩; rw [← h9]; clear h9) | (go_at_call 20; (with_reducible refine (place_is HQ.out (by omega) (by omega) _).mono ?_); rintro en w' ⟨rfl, h9⟩; rw [← h9]; clear h9) | (go_at_call 117; (with_reducible refine (st_call0 hMs hI hR hc q0 q1).mono ?_); rintro en w9 ⟨rfl, S9, F9, Z9, col9, p9, hQ9, hR9, hM9, hw9, hc9⟩))
  go_ret
  exact ⟨rfl, S9, F9, Z9, col9, p9, hQ9, hR9, hM9, hWs.stepU (fun _ _ _ => rfl) hw9, fun x hx h0 => hc9 x (Nat.lt_of_lt_of_le hx hWs.size) h0⟩
set_option maxRecDepth 100000 in
set_option maxHeartbeats 8000000 in
theorem do_rep0 {base g : Nat} {col : Nat → Nat} {w : World} {S : UcS} {F : Nat → List RM} {Z : Nat → List (List UInt8)} {p : CnP} {N : Int} {c : Nat} (hM : CM base g col w (S.cn Z) p) (hI : UInv N c S) (hR : RelF S F Z) (hc : c ≤ 1000) {kd sd sv : Int} (hs : bits .and .i64 sd 1 = 0) (hk : kd % 3 = 2) : Calls Try.prog 68 #[.pointer (some ⟨g, 0, none⟩), .agg #[.int .i64 kd, .int .i64 sd, .int .i64 sv]] w (CPost (fun S' F' => F' = F ∧ UInv N c S' ∧ ((S' = S ∧ (S.E 0).ss = []) ∨ ∃ n v, n ∈ (S.E 0).ss ∧ S' = repS S 0 n v)) base g col w) := by
  have HK := Lib.hid hk
  clear hk
  have hal := (Below.refl w.heap.size w).alloc (Nat.le_refl _) (.cells #[.int .i64 kd, .int .i64 sd, .int .i64 sv] 110)
  have rs := Row.born w 110 #[.int .i64 kd, .int .i64 sd, .int .i64 sv]
  have hMs := hM.below hal
  have hWs := White.below (col := col) hal
  go_enter Try.func68, Try.ntmps68
  go_upto_region 1 with (fail)
  generalize w.alloc (.cells #[.int .i64 kd, .int .i64 sd, .int .i64 sv] 110) = ws at *
  generalize w.heap.size = gs at *
  have s0 : ws.cell? ⟨gs, 0, none⟩ = some (.int .i64 kd) := rs.cell 0
  have s1 : ws.cell? ⟨gs, 1, none⟩ = some (.int .i64 sd) := rs.cell 1
  have s2 : ws.cell? ⟨gs, 2, none⟩ = some (.int .i64 sv) := rs.cell 2
  clear rs hal
  go_wp2_with (first | (go_at_call 20; (with_reducible refine (place_is HK.out (by omega) (by omega) _).mono ?_); rintro en w' ⟨rfl, h9⟩; rw [← h9]; clear h9) | (go_at_call 69; (with_reducible refine (st_rep0 hMs hI hR hc sv).mono ?_); rintro en w9 ⟨rfl, S9, F9, Z9, col9, p9, ⟨hQ9, hI9, hq9⟩, hR9, hM9, hw9, hc9⟩))
  go_ret
  exact ⟨rfl, S9, F9, Z9, col9, p9, ⟨hQ9, hI9, hq9⟩, hR9, hM9, hWs.stepU (fun _ _ _ => rfl) hw9, fun x hx h0 => hc9 x (Nat.lt_of_lt_of_le hx hWs.size) h0⟩
set_option maxRecDepth 100000 in
set_option maxHeartbeats 8000000 in
theorem do_call1 {base g : Nat} {col : Nat → Nat} {w : World} {S : UcS} {F : Nat → List RM} {Z : Nat → List (List UInt8)} {p : CnP} {N : Int} {c : Nat} (hM : CM base g col w (S.cn Z) p) (hI : UInv N c S) (hR : RelF S F Z) (hc : c ≤ 1000) {kd sd sv : Int} (hs : bits .and .i64 sd 1 = 1) (hk : kd % 3 = 0) : Calls Try.prog 68 #[.pointer (some ⟨g, 0, none⟩), .agg #[.int .i64 kd, .int .i64 sd, .int .i64 sv]] w (CPost (fun S' F' => F' = F ∧ UInv N (c + 1) S' ∧ (S' = S ∨ ∃ v, S' = callS S 1 v)) base g col w) := by
  have HK := Lib.hid hk
  obtain ⟨q, hq⟩ : ∃ q, sv % 65536 = q := ⟨_, rfl⟩
  have HQ := Lib.hid hq
  have q0 : 0 ≤ q := by rw [← hq]; exact Int.emod_nonneg _ (by omega)
  have q1 : q ≤ 65535 := by rw [← hq]; have := Int.emod_lt_of_pos sv (show (0 : Int) < 65536 by omega); omega
  clear hk hq
  have hal := (Below.refl w.heap.size w).alloc (Nat.le_refl _) (.cells #[.int .i64 kd, .int .i64 sd, .int .i64 sv] 110)
  have rs := Row.born w 110 #[.int .i64 kd, .int .i64 sd, .int .i64 sv]
  have hMs := hM.below hal
  have hWs := White.below (col := col) hal
  go_enter Try.func68, Try.ntmps68
  go_upto_region 1 with (fail)
  generalize w.alloc (.cells #[.int .i64 kd, .int .i64 sd, .int .i64 sv] 110) = ws at *
  generalize w.heap.size = gs at *
  have s0 : ws.cell? ⟨gs, 0, none⟩ = some (.int .i64 kd) := rs.cell 0
  have s1 : ws.cell? ⟨gs, 1, none⟩ = some (.int .i64 sd) := rs.cell 1
  have s2 : ws.cell? ⟨gs, 2, none⟩ = some (.int .i64 sv) := rs.cell 2
  clear rs hal
  go_wp2_with (first | (go_at_call 20; (with_reducible refine (place_is HK.out (by omega) (by omega) _).mono ?_); rintro en w' ⟨rfl, h9⟩; rw [← h9]; clear h9) | (go_at_call 20; (with_reducible refine (place_is HQ.out (by omega) (by omega) _).mono ?_); rintro en w' ⟨rfl, h9⟩; rw [← h9]; clear h9) | (go_at_call 117; (with_reducible refine (st_call1 hMs hI hR hc q0 q1).mono ?_); rintro en w9 ⟨rfl, S9, F9, Z9, col9, p9, hQ9, hR9, hM9, hw9, hc9⟩))
  go_ret
  exact ⟨rfl, S9, F9, Z9, col9, p9, hQ9, hR9, hM9, hWs.stepU (fun _ _ _ => rfl) hw9, fun x hx h0 => hc9 x (Nat.lt_of_lt_of_le hx hWs.size) h0⟩
set_option maxRecDepth 100000 in
set_option maxHeartbeats 8000000 in
theorem do_rep1 {base g : Nat} {col : Nat → Nat} {w : World} {S : UcS} {F : Nat → List RM} {Z : Nat → List (List UInt8)} {p : CnP} {N : Int} {c : Nat} (hM : CM base g col w (S.cn Z) p) (hI : UInv N c S) (hR : RelF S F Z) (hc : c ≤ 1000) {kd sd sv : Int} (hs : bits .and .i64 sd 1 = 1) (hk : kd % 3 = 2) : Calls Try.prog 68 #[.pointer (some ⟨g, 0, none⟩), .agg #[.int .i64 kd, .int .i64 sd, .int .i64 sv]] w (CPost (fun S' F' => F' = F ∧ UInv N c S' ∧ ((S' = S ∧ (S.E 1).ss = []) ∨ ∃ n v, n ∈ (S.E 1).ss ∧ S' = repS S 1 n v)) base g col w) := by
  have HK := Lib.hid hk
  clear hk
  have hal := (Below.refl w.heap.size w).alloc (Nat.le_refl _) (.cells #[.int .i64 kd, .int .i64 sd, .int .i64 sv] 110)
  have rs := Row.born w 110 #[.int .i64 kd, .int .i64 sd, .int .i64 sv]
  have hMs := hM.below hal
  have hWs := White.below (col := col) hal
  go_enter Try.func68, Try.ntmps68
  go_upto_region 1 with (fail)
  generalize w.alloc (.cells #[.int .i64 kd, .int .i64 sd, .int .i64 sv] 110) = ws at *
  generalize w.heap.size = gs at *
  have s0 : ws.cell? ⟨gs, 0, none⟩ = some (.int .i64 kd) := rs.cell 0
  have s1 : ws.cell? ⟨gs, 1, none⟩ = some (.int .i64 sd) := rs.cell 1
  have s2 : ws.cell? ⟨gs, 2, none⟩ = some (.int .i64 sv) := rs.cell 2
  clear rs hal
  go_wp2_with (first | (go_at_call 20; (with_reducible refine (place_is HK.out (by omega) (by omega) _).mono ?_); rintro en w' ⟨rfl, h9⟩; rw [← h9]; clear h9) | (go_at_call 69; (with_reducible refine (st_rep1 hMs hI hR hc sv).mono ?_); rintro en w9 ⟨rfl, S9, F9, Z9, col9, p9, ⟨hQ9, hI9, hq9⟩, hR9, hM9, hw9, hc9⟩))
  go_ret
  exact ⟨rfl, S9, F9, Z9, col9, p9, ⟨hQ9, hI9, hq9⟩, hR9, hM9, hWs.stepU (fun _ _ _ => rfl) hw9, fun x hx h0 => hc9 x (Nat.lt_of_lt_of_le hx hWs.size) h0⟩
end
end Go.Proofs.Ythjkhambmgepdaa
