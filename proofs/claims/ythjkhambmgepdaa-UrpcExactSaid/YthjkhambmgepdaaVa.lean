/- urpc: what the two ends of a connection keep, in plain words. -/
import Derived.Test.YthjkhambmgepdaaUi
import Derived.Test.YthjkhambmgepdaaCz
namespace Go.Proofs.Ythjkhambmgepdaa
open Go.RowKit
set_option linter.unusedVariables false
/-- A small number as a body. -/
def wdB (v : Int) : List UInt8 := [UInt8.ofNat v.toNat, UInt8.ofNat (v.toNat / 256)]
def wdN (b : List UInt8) : Int := if b.length = 2 then ((b.getD 0 0).toNat : Int) + 256 * ((b.getD 1 0).toNat : Int) else -1
theorem wdN_wdB {v : Int} (h0 : 0 ≤ v) (h1 : v ≤ 65535) : wdN (wdB v) = v := by
  unfold wdN wdB
  rw [if_pos (by rfl)]
  simp only [List.getD_eq_getElem?_getD, List.getElem?_cons_zero, List.getElem?_cons_succ, Option.getD_some, UInt8.toNat_ofNat']
  omega
theorem wdB_len (v : Int) : (wdB v).length = 2 := rfl
/-- The numbers of the requests and of the replies among some messages. -/
def reqN (l : List RM) : List Int := l.filterMap fun m => if m.k = 1 then some m.n else none
def repN (l : List RM) : List Int := l.filterMap fun m => if m.k = 1 then none else some m.n
theorem reqN_app (a b : List RM) : reqN (a ++ b) = reqN a ++ reqN b := List.filterMap_append
theorem repN_app (a b : List RM) : repN (a ++ b) = repN a ++ repN b := List.filterMap_append
theorem reqN_q {m : RM} (h : m.k = 1) (l : List RM) : reqN (m :: l) = m.n :: reqN l := by simp [reqN, h]
theorem repN_q {m : RM} (h : m.k = 1) (l : List RM) : repN (m :: l) = repN l := by simp [repN, h]
theorem reqN_p {m : RM} (h : m.k ≠ 1) (l : List RM) : reqN (m :: l) = reqN l := by simp [reqN, h]
theorem repN_p {m : RM} (h : m.k ≠ 1) (l : List RM) : repN (m :: l) = m.n :: repN l := by simp [repN, h]
def iotaN (a n : Nat) : List Int := (List.range' a n).map fun k : Nat => (k : Int)
theorem iotaN_snoc (a n : Nat) : iotaN a (n + 1) = iotaN a n ++ [((a + n : Nat) : Int)] := by
  unfold iotaN
  rw [List.range'_concat]
  simp
theorem iotaN_cons {a n : Nat} {x : Int} {l : List Int} (h : x :: l = iotaN a n) : 0 < n ∧ x = a ∧ l = iotaN (a + 1) (n - 1) := by
  cases n with
  | zero => simp [iotaN] at h
  | succ n =>
    unfold iotaN at h
    rw [List.range'_succ, List.map_cons] at h
    injection h with h1 h2
    exact ⟨by omega, h1, by rw [h2]; rfl⟩
theorem iotaN_mem {a n : Nat} {x : Int} (h : x ∈ iotaN a n) : (a : Int) ≤ x ∧ x < a + n := by
  unfold iotaN at h
  obtain ⟨k, hk, rfl⟩ := List.mem_map.1 h
  rw [List.mem_range'_1] at hk
  omega
theorem upB_of {last : Int} : ∀ {l : List Int} {p : Int}, (∀ n ∈ l, 1 ≤ n ∧ n ≤ last) → l.Pairwise (· < ·) → (∀ n ∈ l, p < n) → upB last p l = true
  | [], _, _, _, _ => rfl
  | x :: l, p, h1, h2, h3 => by
    have hx := h1 x (List.mem_cons_self ..)
    have hp := h3 x (List.mem_cons_self ..)
    rw [List.pairwise_cons] at h2
    have := upB_of (fun n hn => h1 n (List.mem_cons_of_mem _ hn)) h2.2 h2.1
    simp [upB, this, hx, hp]
theorem numB_of {last cr : Int} {l : List Int} (h1 : ∀ n ∈ l, 1 ≤ n ∧ n ≤ last) (h2 : l.Pairwise (· < ·)) (h3 : (l.length : Int) ≤ cr) : numB last cr l = true := by
  unfold numB
  rw [upB_of h1 h2 (fun n hn => by have := h1 n hn; omega)]
  simp [h3]
theorem nodup_lt {l : List Int} (h : l.Pairwise (· < ·)) : l.Nodup := h.imp fun {a b} h => by omega
theorem erase_idx {l : List Int} {n : Int} : l.eraseIdx (l.idxOf n) = l.erase n := (List.erase_eq_eraseIdx_of_idxOf rfl).symm
/-- One direction: the caller's open calls, the server's, the numbers of the replies and of the requests under way; what the law records. -/
structure UDir (N : Int) (cs : List Int) (la : Int) (ss : List Int) (se : Int) (rep req : List Int) (V A O : List Int) : Prop where
  lv : la = V.length
  sv : se = A.length
  ol : O.length = V.length
  al : A.length ≤ V.length
  ask : A = V.take A.length
  vb : ∀ v ∈ V, 0 ≤ v ∧ v ≤ 65535
  asc : cs.Pairwise (· < ·)
  sasc : ss.Pairwise (· < ·)
  cb : ∀ n ∈ cs, 1 ≤ n ∧ n ≤ la
  sb : ∀ n ∈ ss, 1 ≤ n ∧ n ≤ se
  cl : (cs.length : Int) ≤ N
  perm : cs.Perm (ss ++ (rep ++ req))
  rq : req = iotaN (A.length + 1) (V.length - A.length)
  ov : ∀ k, k < V.length → O[k]? = some (if ((k : Int) + 1) ∈ cs then 0 else 1)
section
variable {N la se : Int} {cs ss rep req V A O : List Int}
theorem UDir.zero (h : 1 ≤ N) : UDir N [] 0 [] 0 [] [] [] [] [] := ⟨rfl, rfl, rfl, Nat.le_refl _, rfl, fun v h => (by cases h), List.Pairwise.nil, List.Pairwise.nil, fun v h => (by cases h), fun v h => (by cases h), (by simp; omega), List.Perm.refl _, rfl, fun k h => (by simp at h)⟩
theorem UDir.nodup (h : UDir N cs la ss se rep req V A O) : (ss ++ (rep ++ req)).Nodup := h.perm.nodup (nodup_lt h.asc)
theorem UDir.sl (h : UDir N cs la ss se rep req V A O) : ss.length + (rep.length + req.length) = cs.length := by
  have := h.perm.length_eq
  simp only [List.length_append] at this
  omega
theorem UDir.call (h : UDir N cs la ss se rep req V A O) (hn : (cs.length : Int) < N) {v : Int} (v0 : 0 ≤ v) (v1 : v ≤ 65535) : UDir N (cs ++ [la + 1]) (la + 1) ss se rep (req ++ [la + 1]) (V ++ [v]) A (O ++ [0]) := by
  have hla := h.lv
  have hol := h.ol
  have hal := h.al
  refine ⟨by simp [hla], h.sv, by simp [hol], by simp; omega, ?_, ?_, ?_, h.sasc, ?_, h.sb, ?_, ?_, ?_, ?_⟩
  · rw [List.take_append_of_le_length h.al]; exact h.ask
  · intro x hx
    rcases List.mem_append.1 hx with hx | hx
    · exact h.vb x hx
    · rw [List.mem_singleton.1 hx]; exact ⟨v0, v1⟩
  · rw [List.pairwise_append]
    refine ⟨h.asc, List.pairwise_singleton _ _, fun a ha b hb => ?_⟩
    rw [List.mem_singleton.1 hb]
    have := h.cb a ha
    omega
  · intro n hn
    rcases List.mem_append.1 hn with hn | hn
    · have := h.cb n hn; omega
    · rw [List.mem_singleton.1 hn]; omega
  · simp; omega
  · have := h.perm.append_right [la + 1]
    simpa using this
  · rw [h.rq, show (V ++ [v]).length - A.length = (V.length - A.length) + 1 by simp; omega, iotaN_snoc]
    congr 2
    rw [hla]
    omega
  · intro k hk
    simp only [List.length_append, List.length_singleton] at hk
    by_cases hkv : k < V.length
    · rw [List.getElem?_append_left (by omega), h.ov k hkv]
      congr 1
      have : ((k : Int) + 1 ∈ cs ++ [la + 1]) ↔ ((k : Int) + 1 ∈ cs) := by
        simp only [List.mem_append, List.mem_singleton]
        constructor
        · rintro (h1 | h1)
          · exact h1
          · omega
        · exact .inl
      simp only [this]
    · obtain rfl : k = V.length := by omega
      rw [List.getElem?_append_right (by omega), hol, Nat.sub_self]
      rw [if_pos (by rw [hla]; simp)]
      rfl
/-- The server takes the first request. -/
theorem UDir.request (h : UDir N cs la ss se rep req V A O) {n : Int} {rs : List Int} (hr : req = n :: rs) :
    n = se + 1 ∧ (ss.length : Int) < N ∧ A.length < V.length ∧ ∀ v, V[A.length]? = some v → UDir N cs la (ss ++ [n]) n rep rs V (A ++ [v]) O := by
  have hrq := h.rq
  rw [hr] at hrq
  obtain ⟨h1, h2, h3⟩ := iotaN_cons hrq
  have hs := h.sl
  have hcl := h.cl
  have hse := h.sv
  rw [hr, List.length_cons] at hs
  refine ⟨by rw [h2, hse]; omega, by omega, by omega, fun v hv => ?_⟩
  have hp := h.perm
  rw [hr] at hp
  refine ⟨h.lv, by rw [h2]; simp, h.ol, by simp; omega, ?_, h.vb, h.asc, ?_, h.cb, ?_, h.cl, ?_, ?_, h.ov⟩
  · rw [List.length_append, List.length_singleton, List.take_add_one, hv]
    rw [← h.ask]
    rfl
  · rw [List.pairwise_append]
    refine ⟨h.sasc, List.pairwise_singleton _ _, fun a ha b hb => ?_⟩
    rw [List.mem_singleton.1 hb]
    have := h.sb a ha
    omega
  · intro m hm
    rcases List.mem_append.1 hm with hm | hm
    · have := h.sb m hm; omega
    · rw [List.mem_singleton.1 hm]; omega
  · refine hp.trans ?_
    have e1 : (ss ++ (rep ++ n :: rs)).Perm (n :: (ss ++ (rep ++ rs))) := by
      rw [← List.append_assoc, ← List.append_assoc]
      exact List.perm_middle
    have e2 : (ss ++ [n] ++ (rep ++ rs)).Perm (n :: (ss ++ (rep ++ rs))) := by
      rw [List.append_assoc]
      exact List.perm_middle
    exact e1.trans e2.symm
  · rw [h3, List.length_append, List.length_singleton]
    congr 1
/-- The server replies. -/
theorem UDir.reply (h : UDir N cs la ss se rep req V A O) {n : Int} (hn : n ∈ ss) : 1 ≤ n ∧ n ≤ A.length ∧ UDir N cs la (ss.erase n) se (rep ++ [n]) req V A O := by
  have hb := h.sb n hn
  have hse := h.sv
  refine ⟨hb.1, by omega, h.lv, h.sv, h.ol, h.al, h.ask, h.vb, h.asc, h.sasc.erase n, h.cb, fun m hm => h.sb m (List.mem_of_mem_erase hm), h.cl, ?_, h.rq, h.ov⟩
  refine h.perm.trans ?_
  have e1 : (ss ++ (rep ++ req)).Perm (n :: (ss.erase n ++ (rep ++ req))) := (List.perm_cons_erase hn).append_right _
  have e2 : (ss.erase n ++ (rep ++ [n] ++ req)).Perm (n :: (ss.erase n ++ (rep ++ req))) := by
    rw [List.append_assoc, ← List.append_assoc, List.singleton_append, ← List.append_assoc]
    exact List.perm_middle
  exact e1.trans e2.symm
/-- The caller takes the first reply. -/
theorem UDir.answer (h : UDir N cs la ss se rep req V A O) {n : Int} {rs : List Int} (hr : rep = n :: rs) {k : Nat} (hk : n = (k : Int) + 1) :
    n ∈ cs ∧ k < V.length ∧ O[k]? = some 0 ∧ UDir N (cs.erase n) la ss se rs req V A (O.set k 1) := by
  have hp := h.perm
  rw [hr] at hp
  have e1 : (ss ++ (n :: rs ++ req)).Perm (n :: (ss ++ (rs ++ req))) := List.perm_middle
  have hmem : n ∈ cs := hp.mem_iff.2 (e1.mem_iff.2 (List.mem_cons_self ..))
  have hb := h.cb n hmem
  have hla := h.lv
  have hkv : k < V.length := by omega
  have hnd := nodup_lt h.asc
  refine ⟨hmem, hkv, by rw [h.ov k hkv, if_pos (by rw [← hk]; exact hmem)], h.lv, h.sv, by simp [h.ol], h.al, h.ask, h.vb, h.asc.erase n, h.sasc, fun m hm => h.cb m (List.mem_of_mem_erase hm), h.sb, ?_, ?_, h.rq, ?_⟩
  · have := h.cl
    have := List.length_erase_of_mem hmem
    omega
  · have e2 := (hp.trans e1).erase n
    rwa [List.erase_cons_head] at e2
  · intro i hi
    by_cases hik : k = i
    · subst hik
      rw [List.getElem?_set_self (by rw [h.ol]; exact hi), if_neg (by rw [← hk]; exact hnd.not_mem_erase)]
    · rw [List.getElem?_set_ne hik, h.ov i hi]
      congr 1
      have : ((i : Int) + 1 ∈ cs.erase n) ↔ ((i : Int) + 1 ∈ cs) := by
        rw [hnd.mem_erase_iff]
        constructor
        · exact fun h => h.2
        · exact fun h => ⟨by omega, h⟩
      simp only [this]
end
structure UcS where
  (E : Nat → UE) (Y : Nat → List RM) (V A O : Nat → List Int)
/-- What a message under way to end s is: a request of the other end, or a reply to a call of end s. -/
def MsgOk (V : Nat → List Int) (s : Nat) (m : RM) : Prop := ∃ (k : Nat) (v : Int), ((V (1 - s))[k]? = some v ∧ m = rqM ((k : Int) + 1) v (wdB v)) ∨ ((V s)[k]? = some v ∧ m = rpM ((k : Int) + 1) 0 (wdB v))
/-- What is so at end s; o is the other end. -/
structure Sd1 (N : Int) (c : Nat) (S : UcS) (s o : Nat) : Prop where
  cr : (S.E s).cr = N
  dd : (S.E s).dd = false
  lc : (S.V s).length ≤ c
  dir : UDir N (S.E s).cs (S.E s).la (S.E o).ss (S.E o).se (repN (S.Y s)) (reqN (S.Y o)) (S.V s) (S.A o) (S.O s)
  msg : ∀ m ∈ S.Y s, MsgOk S.V s m
structure UInv (N : Int) (c : Nat) (S : UcS) : Prop where
  n1 : 1 ≤ N
  n2 : N ≤ 16
  cb : c ≤ 1000000
  d0 : Sd1 N c S 0 1
  d1 : Sd1 N c S 1 0
theorem UInv.sd {N : Int} {c : Nat} {S : UcS} (h : UInv N c S) {s : Nat} (hs : s < 2) : Sd1 N c S s (1 - s) := by
  rcases (show s = 0 ∨ s = 1 by omega) with rfl | rfl
  · exact h.d0
  · exact h.d1
theorem UInv.sd' {N : Int} {c : Nat} {S : UcS} (h : UInv N c S) {s : Nat} (hs : s < 2) : Sd1 N c S (1 - s) s := by
  rcases (show s = 0 ∨ s = 1 by omega) with rfl | rfl
  · exact h.d1
  · exact h.d0
theorem UInv.mk' {N : Int} {c : Nat} {S : UcS} (n1 : 1 ≤ N) (n2 : N ≤ 16) (cb : c ≤ 1000000) {s : Nat} (hs : s < 2) (h1 : Sd1 N c S s (1 - s)) (h2 : Sd1 N c S (1 - s) s) : UInv N c S := by
  rcases (show s = 0 ∨ s = 1 by omega) with rfl | rfl
  · exact ⟨n1, n2, cb, h1, h2⟩
  · exact ⟨n1, n2, cb, h2, h1⟩
theorem UInv.valid {N : Int} {c : Nat} {S : UcS} (h : UInv N c S) {s : Nat} (hs : s < 2) : uV (S.E s) = true := by
  have a := h.sd hs
  have b := h.sd' hs
  have h1 := a.dir.lv
  have h2 := b.dir.sv
  have h3 := a.lc
  have h4 := b.dir.al
  have h5 := b.lc
  have h6 := a.cr
  have h7 := h.cb
  have h8 := b.dir.sl
  have h9 := b.dir.cl
  have n1 := h.n1
  have n2 := h.n2
  unfold uV
  rw [numB_of a.dir.cb a.dir.asc (by rw [h6]; exact a.dir.cl), numB_of b.dir.sb b.dir.sasc (by rw [h6]; omega), a.dd]
  unfold bdB
  rw [h1, h2, h6]
  simp
  omega
theorem UInv.ok {N : Int} {c : Nat} {S : UcS} (h : UInv N c S) {s : Nat} (hs : s < 2) : uE (S.E s) = 0 := by
  unfold uE
  rw [if_pos (h.valid hs), if_neg (by rw [(h.sd hs).dd]; simp)]
theorem rq_ok {k : Nat} {v : Int} (hk : k < 1000000) (h0 : 0 ≤ v) (h1 : v ≤ 65535) : (rqM ((k : Int) + 1) v (wdB v)).ok = true := RM.ok_iff.2 ⟨by show 1 ≤ (k : Int) + 1; omega, by show (k : Int) + 1 ≤ _; omega, by show 2 ≤ _; omega, .inl ⟨rfl, h0, h1, rfl⟩⟩
theorem rq_ok0 {v : Int} (h0 : 0 ≤ v) (h1 : v ≤ 65535) : (rqM 1 v (wdB v)).ok = true := rq_ok (k := 0) (by omega) h0 h1
theorem rp_ok {k : Nat} {v : Int} (hk : k < 1000000) : (rpM ((k : Int) + 1) 0 (wdB v)).ok = true := RM.ok_iff.2 ⟨by show 1 ≤ (k : Int) + 1; omega, by show (k : Int) + 1 ≤ _; omega, by show 2 ≤ _; omega, .inr ⟨rfl, rfl, (by show (0 : Int) ≤ 0; omega), (by show (0 : Int) ≤ 255; omega), .inl rfl⟩⟩
theorem MsgOk.snoc {V : Nat → List Int} {s t : Nat} {m : RM} {v : Int} (h : MsgOk V s m) : MsgOk (upd V t (V t ++ [v])) s m := by
  have e : ∀ (i k : Nat) (x : Int), (V i)[k]? = some x → (upd V t (V t ++ [v]) i)[k]? = some x := fun i k x hx => by
    by_cases hi : i = t
    · subst hi
      rw [upd_self, List.getElem?_append_left (List.getElem?_eq_some_iff.1 hx).1]
      exact hx
    · rw [upd_other hi]; exact hx
  obtain ⟨k, x, h | h⟩ := h
  · exact ⟨k, x, .inl ⟨e _ _ _ h.1, h.2⟩⟩
  · exact ⟨k, x, .inr ⟨e _ _ _ h.1, h.2⟩⟩
theorem MsgOk.isOk {N : Int} {c : Nat} {S : UcS} (h : UInv N c S) {s : Nat} (hs : s < 2) {m : RM} (hm : m ∈ S.Y s) : m.ok = true := by
  obtain ⟨k, v, h1 | h1⟩ := (h.sd hs).msg m hm
  · have hv := (h.sd' hs).dir.vb v (List.mem_of_getElem? h1.1)
    have hk := (List.getElem?_eq_some_iff.1 h1.1).1
    have := (h.sd' hs).lc
    have := h.cb
    rw [h1.2]
    exact rq_ok (by omega) hv.1 hv.2
  · have hk := (List.getElem?_eq_some_iff.1 h1.1).1
    have := (h.sd hs).lc
    have := h.cb
    rw [h1.2]
    exact rp_ok (by omega)
def callS (S : UcS) (s : Nat) (v : Int) : UcS := { S with E := upd S.E s (calU (S.E s)), Y := upd S.Y (1 - s) (S.Y (1 - s) ++ [rqM ((S.E s).la + 1) v (wdB v)]), V := upd S.V s (S.V s ++ [v]), O := upd S.O s (S.O s ++ [0]) }
theorem uc_full {N : Int} {c : Nat} {S : UcS} (h : UInv N c S) {s : Nat} (hs : s < 2) {v : Int} (v0 : 0 ≤ v) (v1 : v ≤ 65535) (hf : ((S.E s).cs.length : Int) = (S.E s).cr) : calE (S.E s) v (wdB v) = 65 := by
  unfold calE
  rw [if_pos (h.ok hs), if_pos (rq_ok0 v0 v1), if_pos hf]
theorem uc_go {N : Int} {c : Nat} {S : UcS} (h : UInv N c S) {s : Nat} (hs : s < 2) {v : Int} (v0 : 0 ≤ v) (v1 : v ≤ 65535) (hf : ((S.E s).cs.length : Int) ≠ (S.E s).cr) (hc : c < 1000000) :
    calE (S.E s) v (wdB v) = 0 ∧ (S.E s).la = (S.V s).length ∧ UInv N (c + 1) (callS S s v) := by
  have a := h.sd hs
  have b := h.sd' hs
  have hla := a.dir.lv
  have hlc := a.lc
  have hcl := a.dir.cl
  have hcr := a.cr
  refine ⟨?_, hla, ?_⟩
  · unfold calE
    rw [if_pos (h.ok hs), if_pos (rq_ok0 v0 v1), if_neg hf, if_neg (by omega)]
  · have hso : s ≠ 1 - s := by omega
    have hos : 1 - s ≠ s := by omega
    have hd := a.dir.call (by omega) v0 v1
    have hY1 : reqN (S.Y (1 - s) ++ [rqM ((S.E s).la + 1) v (wdB v)]) = reqN (S.Y (1 - s)) ++ [(S.E s).la + 1] := by rw [reqN_app]; rfl
    have hY2 : repN (S.Y (1 - s) ++ [rqM ((S.E s).la + 1) v (wdB v)]) = repN (S.Y (1 - s)) := by rw [repN_app]; exact List.append_nil _
    refine UInv.mk' h.n1 h.n2 (by omega) hs ⟨?_, ?_, ?_, ?_, ?_⟩ ⟨?_, ?_, ?_, ?_, ?_⟩
    · simp only [callS, upd_self]; exact hcr
    · simp only [callS, upd_self]; exact a.dd
    · simp only [callS, upd_self, List.length_append, List.length_singleton]; omega
    · simp only [callS, upd_self, upd_other hso, upd_other hos, hY1]; exact hd
    · intro m hm
      simp only [callS, upd_other hso] at hm
      exact (a.msg m hm).snoc
    · simp only [callS, upd_other hos]; exact b.cr
    · simp only [callS, upd_other hos]; exact b.dd
    · simp only [callS, upd_other hos]; have := b.lc; omega
    · simp only [callS, upd_self, upd_other hso, upd_other hos, hY2]; exact b.dir
    · intro m hm
      simp only [callS, upd_self] at hm
      rcases List.mem_append.1 hm with hm | hm
      · exact (b.msg m hm).snoc
      · rw [List.mem_singleton.1 hm]
        refine ⟨(S.V s).length, v, .inl ⟨?_, by rw [hla]⟩⟩
        rw [show 1 - (1 - s) = s by omega]
        simp only [callS, upd_self]
        simp
/-- End s has received message m, which is no longer under way. -/
def rcvS (S : UcS) (s : Nat) (m : RM) (ys : List RM) : UcS :=
  if m.k = 1 then { S with E := upd S.E s { S.E s with se := m.n, ss := (S.E s).ss ++ [m.n] }, Y := upd S.Y s ys, A := upd S.A s (S.A s ++ [m.s]) }
  else { S with E := upd S.E s { S.E s with cs := (S.E s).cs.erase m.n }, Y := upd S.Y s ys, O := upd S.O s ((S.O s).set (m.n - 1).toNat 1) }
theorem uc_req {N : Int} {c : Nat} {S : UcS} (h : UInv N c S) {s : Nat} (hs : s < 2) {m : RM} {ys : List RM} (hY : S.Y s = m :: ys) (hk : m.k = 1) :
    rcvE (S.E s) m.by = 0 ∧ dM m.by = m ∧ rcvU (S.E s) m.by = { S.E s with se := m.n, ss := (S.E s).ss ++ [m.n] } ∧ m.n = (S.A s).length + 1 ∧ (S.A s).length < (S.V (1 - s)).length ∧ (S.V (1 - s))[(S.A s).length]? = some m.s ∧ wdN m.b = m.s ∧ UInv N c (rcvS S s m ys) := by
  have a := h.sd hs
  have b := h.sd' hs
  have hm := MsgOk.isOk h hs (m := m) (by rw [hY]; exact List.mem_cons_self ..)
  obtain ⟨d1, d2⟩ := rm_dec hm
  have hr : reqN (S.Y s) = m.n :: reqN ys := by rw [hY, reqN_q hk]
  obtain ⟨e1, e2, e3, e4⟩ := b.dir.request hr
  have hse := b.dir.sv
  obtain ⟨k, v, h1 | h1⟩ := a.msg m (by rw [hY]; exact List.mem_cons_self ..)
  case inr => exfalso; rw [h1.2] at hk; cases hk
  have hkn : m.n = (k : Int) + 1 := by rw [h1.2]; rfl
  have hkA : k = (S.A s).length := by omega
  have hms : m.s = v := by rw [h1.2]; rfl
  have hvb := b.dir.vb v (List.mem_of_getElem? h1.1)
  have hmb : wdN m.b = m.s := by rw [hms, h1.2]; exact wdN_wdB hvb.1 hvb.2
  have hVv := h1.1
  rw [hkA, ← hms] at hVv
  refine ⟨?_, d2, ?_, by omega, e3, hVv, hmb, ?_⟩
  · unfold rcvE
    rw [if_pos (h.ok hs), if_pos d1, d2, if_pos hk, if_pos e1, if_neg (by have := a.cr; omega)]
  · unfold rcvU
    rw [d2, if_pos hk]
  · have hso : s ≠ 1 - s := by omega
    have hos : 1 - s ≠ s := by omega
    have hp : repN (S.Y s) = repN ys := by rw [hY, repN_q hk]
    have hd := e4 _ hVv
    have ha := a.dir
    rw [hp] at ha
    unfold rcvS
    rw [if_pos hk]
    refine UInv.mk' h.n1 h.n2 h.cb hs ⟨?_, ?_, ?_, ?_, ?_⟩ ⟨?_, ?_, ?_, ?_, ?_⟩
    · simp only [upd_self]; exact a.cr
    · simp only [upd_self]; exact a.dd
    · exact a.lc
    · simp only [upd_self, upd_other hos]; exact ha
    · intro m' hm'
      simp only [upd_self] at hm'
      exact a.msg m' (by rw [hY]; exact List.mem_cons_of_mem _ hm')
    · simp only [upd_other hos]; exact b.cr
    · simp only [upd_other hos]; exact b.dd
    · exact b.lc
    · simp only [upd_self, upd_other hos]; exact hd
    · intro m' hm'
      simp only [upd_other hos] at hm'
      exact b.msg m' hm'
theorem uc_ans {N : Int} {c : Nat} {S : UcS} (h : UInv N c S) {s : Nat} (hs : s < 2) {m : RM} {ys : List RM} (hY : S.Y s = m :: ys) (hk : m.k ≠ 1) :
    m.k = 2 ∧ rcvE (S.E s) m.by = 0 ∧ dM m.by = m ∧ rcvU (S.E s) m.by = { S.E s with cs := (S.E s).cs.erase m.n } ∧ ∃ k : Nat, m.n = (k : Int) + 1 ∧ k < (S.O s).length ∧ (S.O s)[k]? = some 0 ∧ (S.V s)[k]? = some (wdN m.b) ∧ UInv N c (rcvS S s m ys) := by
  have a := h.sd hs
  have b := h.sd' hs
  have hm := MsgOk.isOk h hs (m := m) (by rw [hY]; exact List.mem_cons_self ..)
  obtain ⟨d1, d2⟩ := rm_dec hm
  have hr : repN (S.Y s) = m.n :: repN ys := by rw [hY, repN_p hk]
  obtain ⟨k, v, h1 | h1⟩ := a.msg m (by rw [hY]; exact List.mem_cons_self ..)
  case inl => exfalso; rw [h1.2] at hk; exact hk rfl
  have hkn : m.n = (k : Int) + 1 := by rw [h1.2]; rfl
  obtain ⟨e1, e2, e3, e4⟩ := a.dir.answer hr hkn
  have hvb := a.dir.vb v (List.mem_of_getElem? h1.1)
  have hmb : wdN m.b = v := by rw [h1.2]; exact wdN_wdB hvb.1 hvb.2
  refine ⟨by rw [h1.2]; rfl, ?_, d2, ?_, k, hkn, by rw [a.dir.ol]; exact e2, e3, by rw [hmb]; exact h1.1, ?_⟩
  · unfold rcvE
    rw [if_pos (h.ok hs), if_pos d1, d2, if_neg hk, if_pos e1]
  · unfold rcvU
    rw [d2, if_neg hk, erase_idx]
  · have hso : s ≠ 1 - s := by omega
    have hos : 1 - s ≠ s := by omega
    have hp : reqN (S.Y s) = reqN ys := by rw [hY, reqN_p hk]
    have hb := b.dir
    rw [hp] at hb
    unfold rcvS
    rw [if_neg hk, show (m.n - 1).toNat = k by omega]
    refine UInv.mk' h.n1 h.n2 h.cb hs ⟨?_, ?_, ?_, ?_, ?_⟩ ⟨?_, ?_, ?_, ?_, ?_⟩
    · simp only [upd_self]; exact a.cr
    · simp only [upd_self]; exact a.dd
    · exact a.lc
    · simp only [upd_self, upd_other hos]; exact e4
    · intro m' hm'
      simp only [upd_self] at hm'
      exact a.msg m' (by rw [hY]; exact List.mem_cons_of_mem _ hm')
    · simp only [upd_other hos]; exact b.cr
    · simp only [upd_other hos]; exact b.dd
    · exact b.lc
    · simp only [upd_self, upd_other hos]; exact hb
    · intro m' hm'
      simp only [upd_other hos] at hm'
      exact b.msg m' hm'
/-- End s replies to call n. -/
def repS (S : UcS) (s : Nat) (n v : Int) : UcS := { S with E := upd S.E s (repU (S.E s) n), Y := upd S.Y (1 - s) (S.Y (1 - s) ++ [rpM n 0 (wdB v)]) }
theorem uc_rep {N : Int} {c : Nat} {S : UcS} (h : UInv N c S) {s : Nat} (hs : s < 2) {n : Int} (hn : n ∈ (S.E s).ss) :
    1 ≤ n ∧ n ≤ (S.A s).length ∧ ∃ v, (S.A s)[(n - 1).toNat]? = some v ∧ 0 ≤ v ∧ v ≤ 65535 ∧ repE (S.E s) n 0 (wdB v) = 0 ∧ UInv N c (repS S s n v) := by
  have a := h.sd hs
  have b := h.sd' hs
  obtain ⟨e1, e2, e3⟩ := b.dir.reply hn
  have hal := b.dir.al
  obtain ⟨k, rfl⟩ : ∃ k : Nat, n = (k : Int) + 1 := ⟨(n - 1).toNat, by omega⟩
  obtain ⟨v, hv⟩ : ∃ v, (S.A s)[k]? = some v := ⟨_, List.getElem?_eq_getElem (by omega)⟩
  have hV : (S.V (1 - s))[k]? = some v := by
    rw [b.dir.ask, List.getElem?_take] at hv
    split at hv
    · exact hv
    · cases hv
  have hvb := b.dir.vb v (List.mem_of_getElem? hV)
  have hlc := b.lc
  have hcb := h.cb
  refine ⟨e1, e2, v, by rw [show ((k : Int) + 1 - 1).toNat = k by omega]; exact hv, hvb.1, hvb.2, ?_, ?_⟩
  · unfold repE
    rw [if_pos (h.ok hs), if_pos hn, if_pos (rp_ok (by omega))]
  · have hso : s ≠ 1 - s := by omega
    have hos : 1 - s ≠ s := by omega
    have hY1 : reqN (S.Y (1 - s) ++ [rpM ((k : Int) + 1) 0 (wdB v)]) = reqN (S.Y (1 - s)) := by rw [reqN_app]; exact List.append_nil _
    have hY2 : repN (S.Y (1 - s) ++ [rpM ((k : Int) + 1) 0 (wdB v)]) = repN (S.Y (1 - s)) ++ [(k : Int) + 1] := by rw [repN_app]; rfl
    have hU : repU (S.E s) ((k : Int) + 1) = { S.E s with ss := (S.E s).ss.erase ((k : Int) + 1) } := by unfold repU; rw [erase_idx]
    unfold repS
    rw [hU]
    refine UInv.mk' h.n1 h.n2 h.cb hs ⟨?_, ?_, ?_, ?_, ?_⟩ ⟨?_, ?_, ?_, ?_, ?_⟩
    · simp only [upd_self]; exact a.cr
    · simp only [upd_self]; exact a.dd
    · exact a.lc
    · simp only [upd_self, upd_other hso, upd_other hos, hY1]; exact a.dir
    · intro m' hm'
      simp only [upd_other hso] at hm'
      exact a.msg m' hm'
    · simp only [upd_other hos]; exact b.cr
    · simp only [upd_other hos]; exact b.dd
    · exact b.lc
    · simp only [upd_self, upd_other hos, upd_other hso, hY2]; exact e3
    · intro m' hm'
      simp only [upd_self] at hm'
      rcases List.mem_append.1 hm' with hm' | hm'
      · exact b.msg m' hm'
      · rw [List.mem_singleton.1 hm']
        exact ⟨k, v, .inr ⟨hV, rfl⟩⟩
/-- A new connection. -/
def newUS (n : Int) : UcS := ⟨fun _ => ⟨n, 0, 0, [], [], false⟩, fun _ => [], fun _ => [], fun _ => [], fun _ => []⟩
theorem newUS_inv {n : Int} (h1 : 1 ≤ n) (h2 : n ≤ 16) : UInv n 0 (newUS n) :=
  ⟨h1, h2, by omega, ⟨rfl, rfl, Nat.le_refl _, UDir.zero h1, fun m h => by cases h⟩, ⟨rfl, rfl, Nat.le_refl _, UDir.zero h1, fun m h => by cases h⟩⟩
/-- What is still to be done. -/
def UcS.pot (S : UcS) (s : Nat) : Nat := 3 * (reqN (S.Y s)).length + (repN (S.Y s)).length + 2 * (S.E s).ss.length
theorem uc_yl (l : List RM) : (reqN l).length + (repN l).length = l.length := by
  induction l with
  | nil => rfl
  | cons m l ih =>
    by_cases h : m.k = 1
    · rw [reqN_q h, repN_q h, List.length_cons, List.length_cons]; omega
    · rw [reqN_p h, repN_p h, List.length_cons, List.length_cons]; omega
theorem uc_pot_le {N : Int} {c : Nat} {S : UcS} (h : UInv N c S) : S.pot 0 + S.pot 1 ≤ 96 := by
  have a := h.d0.dir.sl
  have b := h.d1.dir.sl
  have c1 := h.d0.dir.cl
  have c2 := h.d1.dir.cl
  have := h.n2
  unfold UcS.pot
  omega
theorem uc_pot_rcv {S : UcS} {s : Nat} (hs : s < 2) {m : RM} {ys : List RM} (hY : S.Y s = m :: ys) : (rcvS S s m ys).pot s + 1 = S.pot s ∧ (rcvS S s m ys).pot (1 - s) = S.pot (1 - s) := by
  have hos : 1 - s ≠ s := by omega
  unfold rcvS UcS.pot
  by_cases hk : m.k = 1
  · rw [if_pos hk]
    simp only [upd_self, upd_other hos, hY, reqN_q hk, repN_q hk, List.length_append, List.length_cons, List.length_nil]
    exact ⟨by omega, trivial⟩
  · rw [if_neg hk]
    simp only [upd_self, upd_other hos, hY, reqN_p hk, repN_p hk, List.length_cons]
    exact ⟨by omega, trivial⟩
theorem uc_pot_rep {S : UcS} {s : Nat} (hs : s < 2) {n v : Int} (hn : n ∈ (S.E s).ss) : (repS S s n v).pot s + 2 = S.pot s ∧ (repS S s n v).pot (1 - s) = S.pot (1 - s) + 1 := by
  have hos : 1 - s ≠ s := by omega
  have hso : s ≠ 1 - s := by omega
  have hl := List.length_erase_of_mem hn
  have hp := List.length_pos_of_mem hn
  unfold repS UcS.pot
  simp only [upd_self, upd_other hos, upd_other hso, repU, erase_idx, reqN_app, repN_app, List.length_append]
  have e1 : (reqN [rpM n 0 (wdB v)]).length = 0 := rfl
  have e2 : (repN [rpM n 0 (wdB v)]).length = 1 := rfl
  rw [e1, e2, hl]
  omega
/-- With nothing to be done, all calls have ended. -/
theorem uc_pot_zero {N : Int} {c : Nat} {S : UcS} (h : UInv N c S) (h0 : S.pot 0 = 0) (h1 : S.pot 1 = 0) {s : Nat} (hs : s < 2) : S.Y s = [] ∧ (S.E s).cs = [] ∧ (S.E s).ss = [] ∧ ∀ k, k < (S.O s).length → (S.O s)[k]? = some 1 := by
  have y0 := uc_yl (S.Y 0)
  have y1 := uc_yl (S.Y 1)
  unfold UcS.pot at h0 h1
  have a := (h.sd hs).dir
  have e1 : S.Y s = [] := List.eq_nil_of_length_eq_zero (by rcases (show s = 0 ∨ s = 1 by omega) with rfl | rfl <;> omega)
  have e2 : (S.E s).ss = [] := List.eq_nil_of_length_eq_zero (by rcases (show s = 0 ∨ s = 1 by omega) with rfl | rfl <;> omega)
  have e3 : (S.E s).cs = [] := by
    have := a.sl
    refine List.eq_nil_of_length_eq_zero ?_
    rcases (show s = 0 ∨ s = 1 by omega) with rfl | rfl <;> simp only [Nat.sub_self, Nat.sub_zero] at this <;> omega
  refine ⟨e1, e3, e2, fun k hk => ?_⟩
  rw [a.ov k (by rw [← a.ol]; exact hk), e3, if_neg (by simp)]
end Go.Proofs.Ythjkhambmgepdaa
