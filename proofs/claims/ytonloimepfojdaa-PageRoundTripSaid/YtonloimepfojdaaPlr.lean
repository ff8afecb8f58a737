/- Page tables: what a packed table decodes to (plain). -/
import Derived.Test.YtonloimepfojdaaLunq
import Derived.Test.YtonloimepfojdaaLrt
namespace Go.Proofs.Ytonloimepfojdaa
open Go.RowKit
set_option linter.unusedVariables false
theorem leN_digits (v : Nat) : ∀ k, leN ((List.range k).map fun j => UInt8.ofNat (v / 256 ^ j % 256)) = v % 256 ^ k
  | 0 => by simp [leN, Nat.mod_one]
  | k + 1 => by
    rw [List.range_succ, List.map_append, List.map_singleton, leN_snoc, leN_digits v k, List.length_map, List.length_range, UInt8.toNat_ofNat']
    rw [Nat.mod_eq_of_lt (show v / 256 ^ k % 256 < 2 ^ 8 by omega), Nat.pow_succ, Nat.mod_mul, Nat.mul_comm (v / 256 ^ k % 256)]
theorem seg_put_same (bs : List UInt8) (at_ v sz : Nat) (h : at_ + sz ≤ bs.length) : seg (putB bs at_ v sz) at_ sz = (List.range sz).map fun j => UInt8.ofNat (v / 256 ^ j % 256) := by
  apply List.ext_getElem?
  intro j
  unfold seg
  rw [List.getElem?_take, List.getElem?_drop, putB_get]
  by_cases hj : j < sz
  · rw [if_pos hj, if_pos (by omega), List.getElem?_map, List.getElem?_range hj]
    simp
  · rw [if_neg hj, List.getElem?_eq_none (by simp; omega)]
theorem seg_put_other (bs : List UInt8) (at_ v sz o : Nat) (h : o + sz ≤ at_ ∨ at_ + sz ≤ o) : seg (putB bs at_ v sz) o sz = seg bs o sz := by
  apply List.ext_getElem?
  intro j
  unfold seg
  rw [List.getElem?_take, List.getElem?_drop, putB_get, List.getElem?_take, List.getElem?_drop]
  by_cases hj : j < sz
  · rw [if_pos hj, if_pos hj, if_neg (by omega)]
  · rw [if_neg hj, if_neg hj]
theorem enN_same (bs : List UInt8) (ix v sz : Nat) (h : ix * sz + sz ≤ bs.length) (hv : v < 256 ^ sz) : enN sz (putB bs (ix * sz) v sz) ix = v := by
  unfold enN
  rw [seg_put_same bs _ v sz h, leN_digits, Nat.mod_eq_of_lt hv]
theorem enN_other (bs : List UInt8) (ix v sz i : Nat) (h : i ≠ ix) : enN sz (putB bs (ix * sz) v sz) i = enN sz bs i := by
  unfold enN
  rw [seg_put_other]
  rcases Nat.lt_or_ge i ix with h1 | h1
  · exact .inl (by rw [← Nat.succ_mul]; exact Nat.mul_le_mul_right sz h1)
  · exact .inr (by rw [← Nat.succ_mul]; exact Nat.mul_le_mul_right sz (by omega))
theorem enN_zero (sz i : Nat) (h : i * sz + sz ≤ 4096) : enN sz (List.replicate 4096 0) i = 0 := by
  unfold enN seg
  have e : ((List.replicate 4096 (0 : UInt8)).drop (i * sz)).take sz = List.replicate sz 0 := by
    rw [List.drop_replicate, List.take_replicate, Nat.min_eq_left (by omega)]
  rw [e]
  have : ∀ k, leN (List.replicate k (0 : UInt8)) = 0 := fun k => by
    induction k with
    | zero => rfl
    | succ k ih => rw [List.replicate_succ', leN_snoc, ih]; simp
  exact this sz
theorem vMs_lt (lv B : Int) : ∀ (ms : List Mp) (last : Int), vMs lv B last ms = true → ∀ m ∈ ms, last < m.ix ∧ m.ix < B ∧ vM lv B (-1) m = true ∨ last < -1
  | m0 :: r, last, h, m, hm => by
    obtain ⟨h1, h2⟩ := (Bool.and_eq_true _ _).mp (show (vM lv B last m0 && vMs lv B m0.ix r) = true from h)
    by_cases hl : last < -1
    · exact .inr hl
    obtain ⟨i1, i2⟩ := vM_ix h1
    have h3 : vM lv B (-1) m0 = true := by
      unfold vM at h1 ⊢
      simp only [Bool.and_eq_true, decide_eq_true_eq] at h1 ⊢
      exact ⟨⟨⟨⟨⟨by omega, h1.1.1.1.1.2⟩, h1.1.1.1.2⟩, h1.1.1.2⟩, h1.1.2⟩, h1.2⟩
    rcases List.mem_cons.1 hm with rfl | hm'
    · exact .inl ⟨i1, i2, h3⟩
    · rcases vMs_lt lv B r m0.ix h2 m hm' with ⟨a, b, c⟩ | h'
      · exact .inl ⟨by omega, b, c⟩
      · omega
theorem packL_len (w lv : Int) (sz wd : Nat) : ∀ (ms : List Mp) (bs : List UInt8), (packL w lv sz wd bs ms).length = bs.length
  | [], _ => rfl
  | m :: r, bs => by
    show (packL w lv sz wd (putB bs (m.ix.toNat * sz) (encV w true (lv == 0) m.rt m.bs).toNat wd) r).length = _
    rw [packL_len w lv sz wd r, putB_len]
/-- An index that no mapping has: its entry is what it was. -/
theorem enN_miss (w lv : Int) (sz i : Nat) : ∀ (ms : List Mp) (bs : List UInt8), (∀ m ∈ ms, m.ix.toNat ≠ i) → enN sz (packL w lv sz sz bs ms) i = enN sz bs i
  | [], _, _ => rfl
  | m :: r, bs, h => by
    show enN sz (packL w lv sz sz (putB bs (m.ix.toNat * sz) (encV w true (lv == 0) m.rt m.bs).toNat sz) r) i = _
    rw [enN_miss w lv sz i r _ fun m' hm => h m' (List.mem_cons_of_mem _ hm), enN_other _ _ _ _ _ (Ne.symm (h m (List.mem_cons_self ..)))]
/-- An index that a mapping has. -/
theorem enN_hit (w lv B : Int) (sz : Nat) (hsz : 4 ≤ sz) : ∀ (ms : List Mp) (last : Int) (bs : List UInt8), -1 ≤ last → vMs lv B last ms = true → (∀ i : Nat, (i : Int) < B → i * sz + sz ≤ bs.length) → ∀ m ∈ ms, enN sz (packL w lv sz sz bs ms) m.ix.toNat = (encV w true (lv == 0) m.rt m.bs).toNat
  | m0 :: r, last, bs, hl, h, hb, m, hm => by
    obtain ⟨h1, h2⟩ := (Bool.and_eq_true _ _).mp (show (vM lv B last m0 && vMs lv B m0.ix r) = true from h)
    obtain ⟨i1, i2⟩ := vM_ix h1
    show enN sz (packL w lv sz sz (putB bs (m0.ix.toNat * sz) (encV w true (lv == 0) m0.rt m0.bs).toNat sz) r) m.ix.toNat = _
    rcases List.mem_cons.1 hm with rfl | hm'
    · rw [enN_miss w lv sz _ r _ fun m' hm' => by
        rcases vMs_lt lv B r m.ix h2 m' hm' with ⟨a, _, _⟩ | h'
        · omega
        · omega]
      obtain ⟨q0, q1⟩ := encV_bd w true (lv == 0) m.rt m.bs
      refine enN_same _ _ _ _ (hb _ (by omega)) ?_
      have : 256 ^ 4 ≤ 256 ^ sz := Nat.pow_le_pow_right (by omega) hsz
      omega
    · exact enN_hit w lv B sz hsz r m0.ix _ (by omega) h2 (by rw [putB_len]; exact hb) m hm'
/-- How many mappings lie below an index. -/
def cntM (i : Nat) (ms : List Mp) : Nat := (ms.filter fun m : Mp => decide (m.ix < (i : Int))).length
theorem cntM_miss (i : Nat) : ∀ ms : List Mp, (∀ m ∈ ms, m.ix ≠ i) → cntM (i + 1) ms = cntM i ms
  | [], _ => rfl
  | m :: r, h => by
    have ih := cntM_miss i r fun m' hm => h m' (List.mem_cons_of_mem _ hm)
    have hm := h m (List.mem_cons_self ..)
    unfold cntM at ih ⊢
    have e : decide (m.ix < ((i + 1 : Nat) : Int)) = decide (m.ix < (i : Int)) := by rw [decide_eq_decide]; omega
    rw [List.filter_cons, List.filter_cons, e]
    split <;> simp only [List.length_cons, ih]
theorem cntM_hit (lv B : Int) (i : Nat) : ∀ (ms : List Mp) (last : Int), -1 ≤ last → vMs lv B last ms = true → (∃ m ∈ ms, m.ix = i) → cntM (i + 1) ms = cntM i ms + 1
  | m0 :: r, last, hl, h, ⟨m, hm, he⟩ => by
    obtain ⟨h1, h2⟩ := (Bool.and_eq_true _ _).mp (show (vM lv B last m0 && vMs lv B m0.ix r) = true from h)
    obtain ⟨i1, i2⟩ := vM_ix h1
    unfold cntM
    rw [List.filter_cons, List.filter_cons]
    rcases List.mem_cons.1 hm with rfl | hm'
    · have hr := cntM_miss i r fun m' hm' => by
        rcases vMs_lt lv B r m.ix h2 m' hm' with ⟨a, _, _⟩ | h' <;> omega
      unfold cntM at hr
      rw [decide_eq_true (show m.ix < ((i + 1 : Nat) : Int) by omega), decide_eq_false (show ¬ m.ix < (i : Int) by omega)]
      simp only [if_true, Bool.false_eq_true, if_false, List.length_cons, hr]
    · have hr := cntM_hit lv B i r m0.ix (by omega) h2 ⟨m, hm', he⟩
      have hlt : m0.ix < (i : Int) := by
        rcases vMs_lt lv B r m0.ix h2 m hm' with ⟨a, _, _⟩ | h' <;> omega
      unfold cntM at hr
      rw [decide_eq_true (show m0.ix < ((i + 1 : Nat) : Int) by omega), decide_eq_true hlt]
      simp only [if_true, List.length_cons, hr]
theorem cntM_zero (ms : List Mp) (h : ∀ m ∈ ms, -1 < m.ix) : cntM 0 ms = 0 := by
  unfold cntM
  rw [List.length_eq_zero_iff, List.filter_eq_nil_iff]
  intro m hm
  have := h m hm
  simp; omega
theorem cntM_all (N : Nat) (ms : List Mp) (h : ∀ m ∈ ms, m.ix < N) : cntM N ms = ms.length := by
  unfold cntM
  rw [List.length_filter_eq_length_iff]
  intro m hm
  simpa using h m hm
/-- What the entries of a packed table are. -/
structure RtT (w lv : Int) (N : Nat) (ms : List Mp) (L : List UInt8) (X : List Value) : Prop where
  up : UpIs w L N 0 X
  row : X.length = N * 4
  ix : ∀ m ∈ ms, -1 < m.ix ∧ m.ix < N
  hit : ∀ m ∈ ms, ∀ i : Nat, m.ix = i → X[i * 4]? = some (.bool true) ∧ X[i * 4 + 1]? = some (.bool (lv == 0)) ∧ X[i * 4 + 2]? = some (.int .i64 m.rt) ∧ X[i * 4 + 3]? = some (.int .i64 m.bs)
  miss : ∀ i : Nat, i < N → (∀ m ∈ ms, m.ix ≠ i) → X[i * 4]? = some (.bool false) ∧ X[i * 4 + 1]? = some (.bool false) ∧ X[i * 4 + 2]? = some (.int .i64 0) ∧ X[i * 4 + 3]? = some (.int .i64 0)
  cnt : ∀ i : Nat, (∃ m ∈ ms, m.ix = i) → cntM (i + 1) ms = cntM i ms + 1
theorem rtT {w lv : Int} {N sz : Nat} {ms : List Mp} {L : List UInt8} (hw : w = 32 ∧ N = 1024 ∧ sz = 4 ∨ w = 39 ∧ N = 512 ∧ sz = 8) (hv : vT 4096 w lv ms = true) (hL : packL w lv (eb w).toNat (eb w).toNat (List.replicate 4096 0) ms = L) : ∃ X, RtT w lv N ms L X := by
  obtain ⟨hok, hV⟩ := vT_yes hv
  have hsz : (eb w).toNat = sz := by rcases hw with ⟨rfl, rfl, rfl⟩ | ⟨rfl, rfl, rfl⟩ <;> rfl
  have hB : bnd w = N := by rcases hw with ⟨rfl, rfl, rfl⟩ | ⟨rfl, rfl, rfl⟩ <;> rfl
  have hN : 4096 / sz = N := by rcases hw with ⟨rfl, rfl, rfl⟩ | ⟨rfl, rfl, rfl⟩ <;> rfl
  have h4 : 4 ≤ sz := by omega
  rw [hsz] at hL
  rw [hB] at hV
  have hix : ∀ m ∈ ms, -1 < m.ix ∧ m.ix < N ∧ vM lv N (-1) m = true := fun m hm => by
    rcases vMs_lt lv N ms (-1) hV m hm with ⟨a, b, c⟩ | h'
    · exact ⟨a, b, c⟩
    · omega
  have hfit : ∀ i : Nat, (i : Int) < N → i * sz + sz ≤ (List.replicate 4096 (0 : UInt8)).length := fun i hi => by
    rw [List.length_replicate]
    rcases hw with ⟨rfl, rfl, rfl⟩ | ⟨rfl, rfl, rfl⟩ <;> omega
  have hlen : L.length = 4096 := by rw [← hL, packL_len, List.length_replicate]
  have hHit : ∀ m ∈ ms, ∀ i : Nat, m.ix = i → ∃ V : Int, (enN sz L i : Int) = V ∧ Rt w (lv == 0) m.rt m.bs V := fun m hm i hi => by
    obtain ⟨a, b, c⟩ := hix m hm
    unfold vM at c
    simp only [Bool.and_eq_true, decide_eq_true_eq] at c
    have ha := c.1.1.2
    unfold aligned at ha
    simp only [decide_eq_true_eq] at ha
    obtain ⟨V, V0, V1, R1, R2⟩ := rt (lv == 0) m.rt (m.bs / 4096) c.1.2.1 c.1.2.2 (c.2.elim (fun h => .inl (by simp [h])) .inr) (by omega) (by omega)
    rw [show m.bs / 4096 * 4096 = m.bs by omega] at R1 R2
    have hR : Rt w (lv == 0) m.rt m.bs V := by rcases hw with ⟨rfl, _⟩ | ⟨rfl, _⟩ <;> assumption
    refine ⟨V, ?_, hR⟩
    have h1 := enN_hit w lv N sz h4 ms (-1) _ (by omega) hV hfit m hm
    rw [hL, hR.v, hi, Int.toNat_natCast] at h1
    rw [h1]
    omega
  have hMiss : ∀ i : Nat, i < N → (∀ m ∈ ms, m.ix ≠ i) → enN sz L i = 0 := fun i hi h => by
    rw [← hL, enN_miss w lv sz i ms _ fun m hm => by have := h m hm; have := (hix m hm).1; omega]
    exact enN_zero sz i (by have := hfit i (by omega); rwa [List.length_replicate] at this)
  have hz : decOk w 0 = true := by rcases hw with ⟨rfl, _⟩ | ⟨rfl, _⟩ <;> rfl
  have hUp : upOk w L = true := by
    refine up_good hok hlen hsz hN fun i hi => ?_
    by_cases h : ∃ m ∈ ms, m.ix = (i : Int)
    · obtain ⟨m, hm, he⟩ := h
      obtain ⟨V, h1, hR⟩ := hHit m hm i he
      rw [h1]
      have := hR.p
      unfold decP at this
      exact ((Bool.and_eq_true _ _).mp this).1
    · rw [hMiss i hi fun m hm he => h ⟨m, hm, he⟩]
      exact hz
  refine ⟨ptes w sz L N, ⟨?_, ?_, ?_⟩, ptes_len _ _ _ _, fun m hm => ⟨(hix m hm).1, (hix m hm).2.1⟩, ?_, ?_, fun i hi => cntM_hit lv N i ms (-1) (by omega) hV hi⟩
  · unfold upN; rw [if_pos hUp, hsz, hN]
  · unfold upE; rw [if_pos hok, if_pos hUp]
  · unfold upX; rw [if_pos hUp, hsz, hN]
  · intro m hm i hi
    have hiN : i < N := by have := (hix m hm).2.1; omega
    obtain ⟨V, h1, hR⟩ := hHit m hm i hi
    have e : pteC w (enN sz L i) = [.bool true, .bool (lv == 0), .int .i64 m.rt, .int .i64 m.bs] := by
      unfold pteC
      rw [h1, hR.p, hR.l, hR.r, hR.b]
    exact ⟨by have := ptes_at w sz L N i 0 hiN (by omega); rw [e] at this; exact this, by rw [ptes_at w sz L N i 1 hiN (by omega), e]; rfl, by rw [ptes_at w sz L N i 2 hiN (by omega), e]; rfl, by rw [ptes_at w sz L N i 3 hiN (by omega), e]; rfl⟩
  · intro i hi h
    have e : pteC w (enN sz L i) = [.bool false, .bool false, .int .i64 0, .int .i64 0] := by
      rw [hMiss i hi h]
      rcases hw with ⟨rfl, _⟩ | ⟨rfl, _⟩ <;> rfl
    exact ⟨by have := ptes_at w sz L N i 0 hi (by omega); rw [e] at this; exact this, by rw [ptes_at w sz L N i 1 hi (by omega), e]; rfl, by rw [ptes_at w sz L N i 2 hi (by omega), e]; rfl, by rw [ptes_at w sz L N i 3 hi (by omega), e]; rfl⟩
theorem rtT32 {lv : Int} {ms : List Mp} {L : List UInt8} (hv : vT 4096 32 lv ms = true) (hL : packL 32 lv (eb 32).toNat (eb 32).toNat (List.replicate 4096 0) ms = L) : ∃ X, RtT 32 lv 1024 ms L X := rtT (w := 32) (N := 1024) (sz := 4) (.inl ⟨rfl, rfl, rfl⟩) hv hL
theorem rtT39 {lv : Int} {ms : List Mp} {L : List UInt8} (hv : vT 4096 39 lv ms = true) (hL : packL 39 lv (eb 39).toNat (eb 39).toNat (List.replicate 4096 0) ms = L) : ∃ X, RtT 39 lv 512 ms L X := rtT (w := 39) (N := 512) (sz := 8) (.inr ⟨rfl, rfl, rfl⟩) hv hL
end Go.Proofs.Ytonloimepfojdaa
