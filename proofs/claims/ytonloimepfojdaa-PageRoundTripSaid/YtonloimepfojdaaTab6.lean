/- Page tables: copied; the two packings are one. -/
import Derived.Test.YtonloimepfojdaaTab5
namespace Go.Proofs.Ytonloimepfojdaa
open Go.RowKit
set_option linter.unusedVariables false
def msC (ms : List Mp) : List Value := ms.flatMap Mp.cells
theorem msC_len : ∀ ms : List Mp, (msC ms).length = ms.length * 6
  | [] => rfl
  | m :: r => by
    have h := msC_len r
    have e : msC (m :: r) = m.cells ++ msC r := rfl
    rw [e, List.length_append, h, Mp.cells_len, List.length_cons]
    omega
theorem msC_at : ∀ (ms : List Mp) (i j : Nat) (hi : i < ms.length), j < 6 → (msC ms)[i * 6 + j]? = ms[i].cells[j]?
  | m :: r, 0, j, hi, hj => by
    have e : msC (m :: r) = m.cells ++ msC r := rfl
    rw [e, List.getElem?_append_left (by rw [Mp.cells_len]; omega)]
    simp
  | m :: r, i + 1, j, hi, hj => by
    have e : msC (m :: r) = m.cells ++ msC r := rfl
    rw [e, List.getElem?_append_right (by rw [Mp.cells_len]; omega), Mp.cells_len]
    have h := msC_at r i j (by simpa using hi) hj
    rw [show (i + 1) * 6 + j - 6 = i * 6 + j by omega, h]
    simp
theorem msC_one (ms : List Mp) : ∀ u ∈ msC ms, u.oneCell' = true := by
  intro u hu
  obtain ⟨m, _, hm⟩ := List.mem_flatMap.1 hu
  simp only [Mp.cells, List.mem_cons, List.not_mem_nil, or_false] at hm
  rcases hm with rfl | rfl | rfl | rfl | rfl | rfl <;> rfl
theorem IsMs.src {w : World} {A : Option Addr} {n : Nat} {ms : List Mp} (h : IsMs w A n ms) (hn : 0 < n) : ∃ ad, A = some ad ∧ ∀ j u, (msC ms)[j]? = some u → w.cell? (ad.add j) = some u := by
  obtain ⟨b, o, e, hc⟩ := h.2 hn
  refine ⟨⟨b, o, none⟩, e, fun j u hu => ?_⟩
  have hj : j < ms.length * 6 := by
    have := (List.getElem?_eq_some_iff.1 hu).1
    rwa [msC_len] at this
  have hi : j / 6 < ms.length := by omega
  have h6 : j / 6 * 6 + j % 6 = j := by omega
  have h1 := msC_at ms (j / 6) (j % 6) hi (by omega)
  rw [h6, hu] at h1
  rw [Addr.add_mid]
  have h2 := hc (j / 6) hi (j % 6) u h1.symm
  rwa [Nat.add_assoc, h6] at h2
theorem isMs_own {w : World} {base b : Nat} {e : TypeId} {n c : Nat} {ms : List Mp} (h : w.ownsRow base e 6 (.slice (some ⟨b, 0, none⟩) n c) n (msC ms)) : IsMs w (some ⟨b, 0, none⟩) n ms := by
  have hl : n = ms.length := by have := h.1; rw [msC_len] at this; omega
  refine ⟨hl, fun _ => ⟨b, 0, rfl, fun i hi j v hv => ?_⟩⟩
  have hj : j < 6 := by have := (List.getElem?_eq_some_iff.1 hv).1; rwa [Mp.cells_len] at this
  rw [Nat.zero_add, World.ownsRow.cellAt h (i * 6 + j) (by omega), msC_at ms i j hi hj]
  exact hv
theorem isMs_at {w wx : World} {b : Nat} {n : Nat} {ms : List Mp} (h : IsMs w (some ⟨b, 0, none⟩) n ms) (hx : ∀ i, wx.cell? ⟨b, i, none⟩ = w.cell? ⟨b, i, none⟩) : IsMs wx (some ⟨b, 0, none⟩) n ms := by
  refine ⟨h.1, fun hn => ?_⟩
  obtain ⟨b', o, e, hc⟩ := h.2 hn
  injection e with e
  injection e with e1 e2 e3
  subst e1 e2
  exact ⟨b, 0, rfl, fun i hi j v hv => (hx _).trans (hc i hi j v hv)⟩
theorem info_map : (Try.prog.info? 60).map (fun i => (i.zero, i.size, i.bytes)) = some (some (.agg #[.int .i64 0, .int .i64 0, .int .i64 0, .int .i64 0, .int .i64 0, .int .i64 0]), 6, 48) := by kernel_rfl
section
variable {P : Program} {ops : Array Oper} {rest : List Oper} {Q : Exit → Act → World → Prop} {a : Act} {w : World} {dst : Option Tmp} {typ : TypeId} {pos : String} {after : Array Edge}
/-- A copy of a slice of mappings: appended to nil. -/
theorem wp_copy_ms {s x : Operand} {t e : TypeId} {zv : Value} {bytes n c : Nat} {B : Option Addr} {ms : List Mp} (ht : P.underlying t = some (.slice e)) (hinfo : (P.info? e).map (fun i => (i.zero, i.size, i.bytes)) = some (some zv, 6, bytes)) (hzs : zv.cells.size = 6) (hby : bytes ≤ 1000)
    (hB : IsMs w B n ms) (hn : n ≤ 1000) (hs : a.eval s = .slice none 0 0) (hx : a.eval x = .slice B n c)
    (h : ∀ A' c' w', (∀ wx : World, (∀ k, w.heap.size ≤ k → wx.heap[k]? = w'.heap[k]?) → IsMs wx A' n ms) → Below w.heap.size w w' → wpList P ops Q rest (a.put dst (.slice A' n c')) w') :
    wpList P ops Q ({ dst := dst, op := .call { callee := .builtin .append, args := #[s, x], argTypes := #[t, t] }, type := typ, pos := pos, after := after, guard := none } :: rest) a w := by
  obtain ⟨i, hi, hz⟩ := Option.map_eq_some_iff.1 hinfo
  simp only [Prod.mk.injEq] at hz
  obtain ⟨hz0, hz1, hz2⟩ := hz
  have key : ∃ A' c'' w', (Builtin.append_ #[t, t] typ #[.slice none 0 0, .slice B n c]).run P w = .ok (.slice A' n c'') w' ∧ (∀ wx : World, (∀ k, w.heap.size ≤ k → wx.heap[k]? = w'.heap[k]?) → IsMs wx A' n ms) ∧ Below w.heap.size w w' := by
    rcases Nat.eq_zero_or_pos n with h0 | h0
    · subst h0
      refine ⟨none, 0, w, ?_, fun wx _ => ⟨hB.1, fun h => absurd h (by omega)⟩, Below.refl _ _⟩
      cases B <;> simp [Builtin.append_, run_underlying ht, sizeOf, typeInfo, hi, Builtin.lenOf, Builtin.firstCells, loadCells, loadCellsFrom]
    · obtain ⟨ad, rfl, hsrc⟩ := hB.src h0
      obtain ⟨v', w', hr, h2, h3, h4, h5⟩ := run_append_own_at (P := P) w w.heap.size t typ e i zv 6 bytes ht hi hz0 hz1 hz2 hzs (by omega) (.slice none 0 0) 0 [] (World.ownsRow_nil w w.heap.size e 6) ad n c (msC ms)
        (by rw [msC_len, ← hB.1]) hsrc (msC_one ms) (by simp only [maxLen]; omega) (by rw [Nat.zero_add]; exact Nat.le_trans (Nat.mul_le_mul hn hby) (by omega)) (Nat.le_refl _)
      rw [Nat.zero_add, List.nil_append] at h2
      rcases h2.2 with ⟨rfl, hn0⟩ | ⟨g, cap, cur, rfl, rest'⟩
      · omega
      · exact ⟨_, _, _, hr, fun wx hx => isMs_at (isMs_own h2) fun i => World.cell?_of_block (w := w') (hx g rest'.1), (Below.refl _ _).grown h3 (Nat.le_refl _) (fun k hk => by cases hk)⟩
  obtain ⟨A', c'', w', hr, h2, h3⟩ := key
  refine wpList_plain rfl fun K hK => ?_
  unfold Oper.wp execOp
  simp only [resolve, invoke, builtin, Sem.run_bind, Sem.run_pure, Result.andThen_ok, List.map_toArray, List.map_cons, List.map_nil, hs, hx, hr]
  exact hK _ _ (h _ _ _ h2 h3)
end
set_option maxRecDepth 20000 in
set_option maxHeartbeats 4000000 in
theorem copied (b w lv : Int) (A : Option Addr) (n c : Nat) (ms : List Mp) (W : World) (hA : IsMs W A n ms) (hn1 : n ≤ 1000) : Calls Try.prog 26 #[.agg #[.int .i64 b, .int .i64 w, .int .i64 lv, .slice A n c]] W
    (fun e W' => ∃ A' c', e = .returned (.agg #[.int .i64 b, .int .i64 w, .int .i64 lv, .slice A' n c']) ∧ IsMs W' A' n ms ∧ Below W.heap.size W W') := by
  go_enter Try.func26, Try.ntmps26
  go_upto_region 1 with (fail)
  have r1 := (Row.born W 43 #[.int .i64 b, .int .i64 w, .int .i64 lv, .slice A n c]).alloc (.cells #[.int .i64 0, .int .i64 0, .int .i64 0, .slice none 0 0] 43)
  have r2 : Row ((W.alloc (.cells #[.int .i64 b, .int .i64 w, .int .i64 lv, .slice A n c] 43)).alloc (.cells #[.int .i64 0, .int .i64 0, .int .i64 0, .slice none 0 0] 43)) (W.heap.size + 1) 43 #[.int .i64 0, .int .i64 0, .int .i64 0, .slice none 0 0] := by
    have h := Row.born (W.alloc (.cells #[.int .i64 b, .int .i64 w, .int .i64 lv, .slice A n c] 43)) 43 #[.int .i64 0, .int .i64 0, .int .i64 0, .slice none 0 0]
    simpa using h
  have hB := ((Below.refl W.heap.size W).alloc (Nat.le_refl _) (.cells #[.int .i64 b, .int .i64 w, .int .i64 lv, .slice A n c] 43)).alloc (by simp) (.cells #[.int .i64 0, .int .i64 0, .int .i64 0, .slice none 0 0] 43)
  generalize (W.alloc (.cells #[.int .i64 b, .int .i64 w, .int .i64 lv, .slice A n c] 43)).alloc (.cells #[.int .i64 0, .int .i64 0, .int .i64 0, .slice none 0 0] 43) = w1 at *
  have t3 := r1.cell 3
  simp at t3
  have hA1 := hA.below hB
  go_upto_region 2 with ((at_builtin; (refine wp_copy_ms (P := Try.prog) Try.underlying41 info_map rfl (by omega) hA1 hn1 rfl rfl ?_); intro A' c' w3 hA3 hb3; have q1 := r1.below hb3 r1.lt; have q3 := q1.cell 3; have qf := q1.frozen 3; simp at q3))
  have q2 := r2.below hb3 r2.lt
  have hB3 := hB.trans (hb3.mono hB.size)
  have hsz : W.heap.size + 2 ≤ w1.heap.size := by have := r2.lt; omega
  have u1 := Upd.setCell w3 W.heap.size 3 (.slice A' n c')
  have x1 := q1.set 3 (.slice A' n c')
  have x2 := q2.upd u1 (by omega)
  have hB4 := Upd.below hB3 u1 (Nat.le_refl _)
  generalize w3.setCell ⟨W.heap.size, 3, none⟩ (.slice A' n c') = w4 at *
  have a0 := x1.cell 0
  have a1 := x1.cell 1
  have a2 := x1.cell 2
  have a3 := x1.cell 3
  have b0 := x2.cell 0
  have b1 := x2.cell 1
  have b2 := x2.cell 2
  have b3 := x2.cell 3
  have bf := x2.frozen
  simp at a0 a1 a2 a3 b0 b1 b2 b3
  go_wp2
  have y := ((((x2.set 0 (.int .i64 b)).set 1 (.int .i64 w)).set 2 (.int .i64 lv)).set 3 (.slice A' n c'))
  have u2 := (((Upd.setCell w4 (W.heap.size + 1) 0 (.int .i64 b)).trans (Upd.setCell _ (W.heap.size + 1) 1 (.int .i64 w))).trans (Upd.setCell _ (W.heap.size + 1) 2 (.int .i64 lv))).trans (Upd.setCell _ (W.heap.size + 1) 3 (.slice A' n c'))
  generalize (((w4.setCell ⟨W.heap.size + 1, 0, none⟩ (.int .i64 b)).setCell ⟨W.heap.size + 1, 1, none⟩ (.int .i64 w)).setCell ⟨W.heap.size + 1, 2, none⟩ (.int .i64 lv)).setCell ⟨W.heap.size + 1, 3, none⟩ (.slice A' n c') = w5 at *
  have d0 := y.cell 0
  have d1 := y.cell 1
  have d2 := y.cell 2
  have d3 := y.cell 3
  simp at d0 d1 d2 d3
  have hA5 : IsMs w5 A' n ms := hA3 w5 fun k hk => by rw [u2.block k (by omega), u1.block k (by omega)]
  refine bodyPost_ret (v := .agg #[.int .i64 b, .int .i64 w, .int .i64 lv, .slice A' n c']) (by simp [results, Try.results26, go_sem, d0, d1, d2, d3]) rfl ⟨A', c', rfl, hA5, Upd.below hB4 u2 (by omega)⟩
/-- The two packings are one: the bytes above the fourth are zero, and were so. -/
theorem putB_get (bs : List UInt8) (at_ v : Nat) : ∀ k j, (putB bs at_ v k)[j]? = if at_ ≤ j ∧ j < at_ + k ∧ j < bs.length then some (UInt8.ofNat (v / 256 ^ (j - at_) % 256)) else bs[j]?
  | 0, j => by rw [if_neg (by omega)]; rfl
  | k + 1, j => by
    have h := putB_get bs at_ v k j
    rw [putB, List.getElem?_set, putB_len, h]
    by_cases h1 : at_ + k = j
    · subst h1
      simp only [if_true]
      split
      · rw [if_pos (by omega)]; congr 3; rw [show at_ + k - at_ = k by omega]
      · rw [if_neg (by omega), List.getElem?_eq_none (by omega)]
    · rw [if_neg h1]
      by_cases h2 : at_ ≤ j ∧ j < at_ + k ∧ j < bs.length
      · rw [if_pos h2, if_pos (by omega)]
      · rw [if_neg h2, if_neg (by omega)]
theorem putB_48 (bs : List UInt8) (at_ v : Nat) (hv : v < 4294967296) (hz : ∀ j, at_ + 4 ≤ j → j < at_ + 8 → j < bs.length → bs[j]? = some 0) : putB bs at_ v 8 = putB bs at_ v 4 := by
  apply List.ext_getElem?
  intro j
  rw [putB_get, putB_get]
  by_cases h1 : at_ ≤ j ∧ j < at_ + 4 ∧ j < bs.length
  · rw [if_pos (by omega), if_pos h1]
  · rw [if_neg h1]
    by_cases h2 : at_ ≤ j ∧ j < at_ + 8 ∧ j < bs.length
    · rw [if_pos h2, hz j (by omega) (by omega) h2.2.2]
      have : v / 256 ^ (j - at_) = 0 := by
        apply Nat.div_eq_of_lt
        have : 256 ^ 4 ≤ 256 ^ (j - at_) := Nat.pow_le_pow_right (by omega) (by omega)
        omega
      rw [this]
      rfl
    · rw [if_neg h2]
theorem packL_eq (w lv B : Int) : ∀ (ms : List Mp) (last : Int) (bs : List UInt8), -1 ≤ last → vMs lv B last ms = true → (∀ j : Nat, (last + 1) * 8 ≤ j → j < bs.length → bs[j]? = some 0) → packL w lv 8 8 bs ms = packL w lv 8 4 bs ms
  | [], _, _, _, _, _ => rfl
  | m :: r, last, bs, hl, hV, hz => by
    obtain ⟨h1, h2⟩ := (Bool.and_eq_true _ _).mp (show (vM lv B last m && vMs lv B m.ix r) = true from hV)
    obtain ⟨i1, i2⟩ := vM_ix h1
    obtain ⟨q0, q1⟩ := encV_bd w true (lv == 0) m.rt m.bs
    obtain ⟨ixn, hx⟩ : ∃ q : Nat, m.ix = q := ⟨m.ix.toNat, by omega⟩
    have e : putB bs (m.ix.toNat * 8) (encV w true (lv == 0) m.rt m.bs).toNat 8 = putB bs (m.ix.toNat * 8) (encV w true (lv == 0) m.rt m.bs).toNat 4 :=
      putB_48 bs _ _ (by omega) fun j h3 _ h5 => hz j (by omega) h5
    show packL w lv 8 8 (putB bs (m.ix.toNat * 8) (encV w true (lv == 0) m.rt m.bs).toNat 8) r = packL w lv 8 4 (putB bs (m.ix.toNat * 8) (encV w true (lv == 0) m.rt m.bs).toNat 4) r
    rw [e]
    refine packL_eq w lv B r m.ix _ (by omega) h2 fun j h3 h4 => ?_
    rw [putB_len] at h4
    rw [putB_get, if_neg (by omega)]
    exact hz j (by omega) h4
theorem pack_one {b w lv : Int} {ms : List Mp} (h : vT b w lv ms = true) : packL w lv (eb w).toNat (eb w).toNat (List.replicate 4096 0) ms = packL w lv (eb w).toNat 4 (List.replicate 4096 0) ms := by
  obtain ⟨hok, hV⟩ := vT_yes h
  rcases w_cases w with rfl | rfl | ⟨h1, h2, h3, h4⟩
  · rfl
  · exact packL_eq 39 lv (bnd 39) ms (-1) _ (by omega) hV fun j _ hj => by
      rw [List.length_replicate] at hj
      rw [List.getElem?_replicate, if_pos hj]
  · simp [okw, h3, h4] at hok
end Go.Proofs.Ytonloimepfojdaa
