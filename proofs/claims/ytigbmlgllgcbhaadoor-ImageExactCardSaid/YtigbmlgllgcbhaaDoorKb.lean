/- Image: few; the reference's put and Select. -/
import Derived.Test.YtigbmlgllgcbhaaDoorIv
namespace Go.Proofs.YtigbmlgllgcbhaaDoor
open Go.RowKit
set_option linter.unusedVariables false
set_option linter.unusedSimpArgs false
structure FewP (ms : List Md) : Prop where
  (len : ms.length ≤ 70) (each : ∀ m ∈ ms, m.name.length ≤ 60 ∧ m.data.length ≤ 2000) (sum : (ms.map (fun m => m.data.length)).sum ≤ 5000)
def sumK (ms : List Md) (k : Nat) : Nat := ((ms.take k).map (fun m => m.data.length)).sum
theorem sumK_succ (ms : List Md) (k : Nat) (h : k < ms.length) : sumK ms (k + 1) = sumK ms k + (ms[k]).data.length := by
  unfold sumK
  rw [List.take_succ_eq_append_getElem h]
  simp only [List.map_append, List.sum_append, List.map_cons, List.map_nil, List.sum_cons, List.sum_nil, Nat.add_zero]
def FewR (ms : List Md) (W : World) (en : Ending) (W' : World) : Prop := ∃ b, en = .returned (.bool b) ∧ (b = true ↔ FewP ms) ∧ Below W.heap.size W W'
theorem few_no {ms : List Md} {W W' : World} (hn : ¬ FewP ms) (hb : Below W.heap.size W W') : FewR ms W (.returned (.bool false)) W' := ⟨false, rfl, ⟨(fun h => nomatch h), fun h => absurd h hn⟩, hb⟩
set_option maxRecDepth 100000 in
set_option maxHeartbeats 8000000 in
theorem few17 (ms : List Md) (A : Option Addr) (c : Nat) (W : World) (hM : IsMs W A ms.length ms) : Calls Tryd.prog 17 #[.slice A ms.length c] W (FewR ms W) := by
  by_cases h70 : 70 < ms.length
  · have d0 : decide (70 < ms.length) = true := decide_eq_true h70
    have d0i : decide ((70 : Int) < (ms.length : Int)) = true := decide_eq_true (by omega)
    have HX := Lib.hid (show ¬ FewP ms from fun h => by have := h.len; omega)
    clear h70
    go_enter Tryd.func17, Tryd.ntmps17
    go_wp2
    go_ret
    exact few_no HX.out (Below.refl _ _)
  have d0 : decide (70 < ms.length) = false := decide_eq_false h70
  have d0i : decide ((70 : Int) < (ms.length : Int)) = false := decide_eq_false (by omega)
  go_enter Tryd.func17, Tryd.ntmps17
  go_upto_region 5 with (fail)
  clear d0 d0i
  go_loopw [3, 4] (fun v3 v4 wr => ∃ j : Nat, j ≤ ms.length ∧ v4 = .int .i64 j ∧ v3 = .int .i64 ((sumK ms j : Nat) : Int) ∧ sumK ms j ≤ 2000 * j ∧ Below W.heap.size W wr ∧ ∀ i (hi : i < ms.length), i < j → ms[i].name.length ≤ 60 ∧ ms[i].data.length ≤ 2000) (fun _ i _ => ms.length - (intOf i).toNat)
  case atStart => exact ⟨0, by omega, rfl, rfl, by simp [sumK], Below.refl _ _, fun i hi h => by omega⟩
  case round =>
    obtain ⟨j, hj, rfl, rfl, hs, hbr, hall⟩ := hrel
    have HAL := Lib.hid hall
    clear hall
    rcases Nat.lt_or_ge j ms.length with hjl | hjl
    · have d1 : decide (j < ms.length) = true := decide_eq_true hjl
      have hji : (j : Int) < ms.length := by omega
      have hj0 : (0 : Int) ≤ (j : Int) := by omega
      have SS := Lib.hid (sumK_succ ms j hjl)
      obtain ⟨b0, o0, rfl, -⟩ := hM.2 (by omega)
      obtain ⟨D, dc, q0, -, -, -, q4, -, -⟩ := (hM.below hbr).cell j hjl
      obtain ⟨y, hy⟩ : ∃ y, ms[j] = y := ⟨_, rfl⟩
      rw [hy] at q0 q4
      have HY := Lib.hid hy
      rw [hy] at SS
      obtain ⟨s, hse⟩ : ∃ s, sumK ms j = s := ⟨_, rfl⟩
      rw [hse] at SS hs
      simp only [hse]
      clear hy hse
      have hsz : (sv y.name).size = y.name.length := sv_size _
      by_cases hn : 60 < y.name.length
      · have e1 : decide (60 < y.name.length) = true := decide_eq_true hn
        have e1i : decide ((60 : Int) < (y.name.length : Int)) = true := decide_eq_true (by omega)
        have HX := Lib.hid (show ¬ FewP ms from fun h => by have h1 := (h.each ms[j] (List.getElem_mem hjl)).1; rw [HY.out] at h1; omega)
        clear hn
        go_wp2
        go_ret
        exact few_no HX.out hbr
      have e1 : decide (60 < y.name.length) = false := decide_eq_false hn
      have e1i : decide ((60 : Int) < (y.name.length : Int)) = false := decide_eq_false (by omega)
      by_cases hd : 2000 < y.data.length
      · have e2 : decide (2000 < y.data.length) = true := decide_eq_true hd
        have e2i : decide ((2000 : Int) < (y.data.length : Int)) = true := decide_eq_true (by omega)
        have HX := Lib.hid (show ¬ FewP ms from fun h => by have h1 := (h.each ms[j] (List.getElem_mem hjl)).2; rw [HY.out] at h1; omega)
        clear hn hd
        go_wp2
        go_ret
        exact few_no HX.out hbr
      have e2 : decide (2000 < y.data.length) = false := decide_eq_false hd
      have e2i : decide ((2000 : Int) < (y.data.length : Int)) = false := decide_eq_false (by omega)
      have hw : IntKind.i64.wrap ((s : Int) + (y.data.length : Int)) = (s : Int) + (y.data.length : Int) := by rw [IntKind.wrap_i64]; omega
      have HN := Lib.hid (show ms[j].name.length ≤ 60 ∧ ms[j].data.length ≤ 2000 from ⟨by rw [HY.out]; omega, by rw [HY.out]; omega⟩)
      have HS2 := Lib.hid (show sumK ms (j + 1) ≤ 2000 * (j + 1) by rw [SS.out]; omega)
      clear hn hd
      go_wp2
      exact ⟨⟨j + 1, by omega, by go_num, by rw [SS.out]; go_num, HS2.out, hbr, fun i hi h => by rcases Nat.lt_or_ge i j with h9 | h9; exact HAL.out i hi h9; obtain rfl : i = j := (by omega); exact HN.out⟩, by simp [intOf]; omega⟩
    · obtain rfl : j = ms.length := by omega
      have d1 : decide (ms.length < ms.length) = false := by simp
      have HT := Lib.hid (show sumK ms ms.length = (ms.map (fun m => m.data.length)).sum by unfold sumK; rw [List.take_length])
      obtain ⟨s, hse⟩ : ∃ s, sumK ms ms.length = s := ⟨_, rfl⟩
      rw [hse] at HT hs
      simp only [hse]
      clear hse
      by_cases h5 : s ≤ 5000
      · have f1 : decide (s ≤ 5000) = true := decide_eq_true h5
        have f1i : decide ((s : Int) ≤ 5000) = true := decide_eq_true (by omega)
        have HP := Lib.hid (show FewP ms from ⟨by omega, fun m hm => by obtain ⟨i, hi, rfl⟩ := List.mem_iff_getElem.1 hm; exact HAL.out i hi hi, by rw [← HT.out]; exact h5⟩)
        clear h5
        go_wp2
        go_ret
        exact ⟨true, rfl, ⟨fun _ => HP.out, fun _ => rfl⟩, hbr⟩
      · have f1 : decide (s ≤ 5000) = false := decide_eq_false h5
        have f1i : decide ((s : Int) ≤ 5000) = false := decide_eq_false (by omega)
        have HX := Lib.hid (show ¬ FewP ms from fun h => by have h1 := h.sum; rw [← HT.out] at h1; omega)
        clear h5
        go_wp2
        go_ret
        exact few_no HX.out hbr
def GivesO (W : World) (bs : List UInt8) (e : Ending) (w' : World) : Prop := ∃ A n c, e = .returned (.slice A n c) ∧ OwnB w' W.heap.size 5 A n c bs ∧ Below W.heap.size W w'
set_option maxRecDepth 100000 in
set_option maxHeartbeats 8000000 in
theorem append_own (A : Option Addr) (n c : Nat) (bs : List UInt8) (v s : Nat) (w : World) (hA : IsB w A n bs) (hn : n ≤ 1000000000) (hv : v < 18446744073709551616) (s8 : s ≤ 8) :
    Calls Tryd.prog 50 #[.slice A n c, .int .u64 v, .int .i64 s] w (GivesO w (bs ++ fixB v s)) := by
  have hl := Lib.hid hA.1
  have hl1 : 0 + n ≤ 140737488355328 := by omega
  go_enter Tryd.func50, Tryd.ntmps50
  go_upto_region 2 with ((at_builtin; (refine wp_append_b (P := Tryd.prog) rfl _ _ 23 rfl Tryd.underlying23 info_b (OwnB.nil w w.heap.size 5) hA hl1 (Nat.le_refl _) rfl rfl ?_); intro A1 n1 c1 w1 hn1 ho1 hb1 hg1 hat1))
  have ho2 : OwnB w1 w.heap.size 5 A1 n1 c1 (bs ++ (fixB v s).take 0) := by simpa using ho1
  clear hg1 hat1 ho1
  go_wp2
  go_loopw [7, 8] (fun o i wr => ∃ (k : Nat) (A8 : Option Addr) (n8 c8 : Nat), k ≤ s ∧ i = .int .i64 k ∧ o = .slice A8 n8 c8 ∧ OwnB wr w.heap.size 5 A8 n8 c8 (bs ++ (fixB v s).take k) ∧ Below w.heap.size w wr) (fun _ i _ => s - (intOf i).toNat)
  case atStart => exact ⟨0, A1, n1, c1, by omega, rfl, rfl, ho2, hb1⟩
  case round =>
    obtain ⟨k, A8, n8, c8, hk, rfl, rfl, ho8, hb8⟩ := hrel
    clear ho2 hb1
    by_cases hks : k < s
    · have HW : Value.int .u8 ((v : Int) / 2 ^ (8 * k) % 256) = bv (UInt8.ofNat (v / 256 ^ k % 256)) := by
        rw [show ((2 : Int) ^ (8 * k)) = ((256 ^ k : Nat) : Int) by rw [pow_256r]; simp, ← bv_nat _ (Nat.mod_lt _ (by omega))]
        simp
      have i1 : ∀ w : World, IsB (w.alloc (.cells #[.int .u8 ((v : Int) / 2 ^ (8 * k) % 256)] 5)) (some ⟨w.heap.size, 0, none⟩) 1 [UInt8.ofNat (v / 256 ^ k % 256)] := fun w => by
        rw [HW]
        exact IsB.lit w 5 (0, 0) [UInt8.ofNat (v / 256 ^ k % 256)]
      have HT := Lib.hid (fixB_take v s k hks)
      have l8 : n8 + 1 ≤ 140737488355328 := by have h1 := ho8.len; have h2 := hl.out; simp [fixB_len] at h1; omega
      have HWh := Lib.hid HW
      clear HW
      go_wp2_with ((at_builtin; (refine wp_append_b (P := Tryd.prog) rfl _ _ 23 rfl Tryd.underlying23 info_b (OwnB.alloc ho8 _) (i1 _) l8 (by have := hb8.size; simp; omega) rfl rfl ?_); intro A2 n2 c2 w2 hn2 ho2 hb2 hg2 hat2))
      exact ⟨⟨k + 1, A2, n2, c2, by omega, by go_num, rfl, by rw [HT.out, ← List.append_assoc]; exact ho2, (hb8.alloc hb8.size _).trans hb2⟩, by simp [intOf]; omega⟩
    · obtain rfl : k = s := by omega
      rw [List.take_of_length_le (by rw [fixB_len]; omega)] at ho8
      go_wp2
      go_ret
      exact ⟨A8, n8, c8, rfl, ho8, hb8⟩
set_option maxRecDepth 100000 in
set_option maxHeartbeats 8000000 in
theorem rput (A : Option Addr) (n c : Nat) (bs : List UInt8) (v s : Nat) (w : World) (hA : IsB w A n bs) (hn : n ≤ 1000000000) (hv : v < 18446744073709551616) (s8 : s ≤ 8) : Calls Tryd.prog 37 #[.slice A n c, .int .u64 v, .int .i64 s] w (GivesO w (bs ++ fixB v s)) := by
  have H := Lib.hid (append_own A n c bs v s w hA hn hv s8)
  go_enter Tryd.func37, Tryd.ntmps37
  go_wp2_with (go_at_call 50; (with_reducible refine H.out.mono ?_); rintro en w2 ⟨A2, n2, c2, rfl, hI2, hb2⟩)
  go_ret
  exact ⟨A2, n2, c2, rfl, hI2, hb2⟩
/-- A list whose modules' data lie as they lay in W. -/
structure ShrMs (W w : World) (base : Nat) (A : Option Addr) (n c : Nat) (qs : List Mq) (ms : List Md) : Prop where
  (eq : qs.map (·.1) = ms) (ln : n = ms.length) (ro : OwnV w base 35 5 A n c (mqs qs)) (qd : ∀ q ∈ qs, q.1.data.length ≤ q.2.2 ∧ IsB W q.2.1 q.1.data.length q.1.data)
theorem ShrMs.isMs {W w : World} {base n c : Nat} {A : Option Addr} {qs : List Mq} {ms : List Md} (h : ShrMs W w base A n c qs ms) (hb : Below W.heap.size W w) : IsMs w A n ms := by
  obtain ⟨rfl, hn, ho, hd⟩ := h
  refine ⟨hn, fun h0 => ?_⟩
  obtain ⟨g, rfl, -, -⟩ := ho.form h0
  refine ⟨g, 0, rfl, fun r hr => ?_⟩
  have hr2 : r < qs.length := by simpa using hr
  have hm := hd _ (List.getElem_mem hr2)
  refine ⟨qs[r].2.1, qs[r].2.2, fun i v hv => ?_, ?_, ?_⟩
  · have hi : i < 5 := by
      have := (List.getElem?_eq_some_iff.1 hv).1
      simpa [mdV] using this
    have h1 := World.ownsRow.cellAt (show w.ownsRow base 35 5 (.slice (some ⟨g, 0, none⟩) n c) n (mqs qs) from ho) (5 * r + i) (by rw [List.length_map] at hn; omega)
    rw [mqs_get qs r i hr2 hi] at h1
    rw [show 0 + r * 5 + i = 5 * r + i by omega, h1]
    simpa using hv
  · simpa using hm.1
  · simpa using hm.2.below hb
theorem ShrMs.app {W w w' : World} {base n c c2 : Nat} {A A2 : Option Addr} {qs : List Mq} {ms : List Md} (h : ShrMs W w base A n c qs ms) {m : Md} {D : Option Addr} {dc : Nat} (hd : m.data.length ≤ dc ∧ IsB W D m.data.length m.data) (h2 : OwnV w' base 35 5 A2 (n + 1) c2 (mqs qs ++ mdV m D dc)) : ShrMs W w' base A2 (n + 1) c2 (qs ++ [(m, D, dc)]) (ms ++ [m]) := by
  have e : mqs (qs ++ [(m, D, dc)]) = mqs qs ++ mdV m D dc := by simp [mqs]
  refine ⟨by simp [h.eq], by simp [h.ln], by rw [e]; exact h2, fun q hq => ?_⟩
  rcases List.mem_append.1 hq with hq | hq
  · exact h.qd q hq
  · obtain rfl := List.mem_singleton.1 hq
    exact hd
theorem ShrMs.below {W w w' : World} {base n c : Nat} {A : Option Addr} {qs : List Mq} {ms : List Md} (h : ShrMs W w base A n c qs ms) (hb : Below w.heap.size w w') : ShrMs W w' base A n c qs ms := ⟨h.eq, h.ln, h.ro.below hb, h.qd⟩
def ShrR (ms : List Md) (W : World) (en : Ending) (W' : World) : Prop := ∃ A c, en = .returned (.slice A ms.length c) ∧ IsMs W' A ms.length ms ∧ ms.length ≤ c ∧ Below W.heap.size W W'
set_option maxRecDepth 100000 in
set_option maxHeartbeats 8000000 in
theorem rselect23 (ms : List Md) (wd : Int) (A : Option Addr) (c : Nat) (W : World) (hM : IsMs W A ms.length ms) (hml : ms.length ≤ 1000000) : Calls Tryd.prog 23 #[.slice A ms.length c, .int .i64 wd] W (ShrR (selM wd ms) W) := by
  go_enter Tryd.func23, Tryd.ntmps23
  go_upto_region 3 with (fail)
  go_loopw [5, 6] (fun v5 v6 wr => ∃ (j : Nat) (A1 : Option Addr) (c1 : Nat) (qs : List Mq), j ≤ ms.length ∧ v6 = .int .i64 j ∧ v5 = .slice A1 (selM wd (ms.take j)).length c1 ∧ ShrMs W wr W.heap.size A1 (selM wd (ms.take j)).length c1 qs (selM wd (ms.take j)) ∧ Below W.heap.size W wr) (fun _ i _ => ms.length - (intOf i).toNat)
  case atStart => exact ⟨0, none, 0, [], by omega, rfl, rfl, ⟨rfl, rfl, OwnV.nil _ _ _ _, fun q hq => by simp at hq⟩, Below.refl _ _⟩
  case round =>
    obtain ⟨j, A1, c1, qs, hj, rfl, rfl, ho, hbr⟩ := hrel
    rcases Nat.lt_or_ge j ms.length with hjl | hjl
    · have d1 : decide (j < ms.length) = true := decide_eq_true hjl
      have hji : (j : Int) < ms.length := by omega
      have hj0 : (0 : Int) ≤ (j : Int) := by omega
      obtain ⟨b0, o0, rfl, hrr⟩ := hM.2 (by omega)
      obtain ⟨y, hy⟩ : ∃ y, ms[j] = y := ⟨_, rfl⟩
      obtain ⟨D, dc, hr5, hdc, hD⟩ := hrr j hjl
      rw [hy] at hr5 hdc hD
      have hrg := rangeAt_below hr5 hbr
      have q2 : wr.cell? ⟨b0, o0 + j * 5 + 2, none⟩ = some (.int .i64 y.width) := hrg 2 _ rfl
      have hst := selM_step wd ms j hjl hy
      obtain ⟨sl, hsl⟩ : ∃ sl, selM wd (ms.take j) = sl := ⟨_, rfl⟩
      have hln : sl.length ≤ ms.length := by rw [← hsl]; exact Nat.le_trans (List.length_filter_le _ _) (by simp; omega)
      rw [hsl] at hst ho
      simp only [hsl]
      clear hsl hy hrr hr5
      by_cases hp : (y.width == wd || y.width == 0) = true
      · rw [if_pos hp] at hst
        have hsl2 : (selM wd (ms.take (j + 1))).length = sl.length + 1 := by rw [hst]; simp
        have hal := (Below.refl wr.heap.size wr).alloc (Nat.le_refl _) (.cells (mdV y D dc).toArray 35)
        have hob := ho.below hal
        have rx := Row.born wr 35 (mdV y D dc).toArray
        have hB := hbr.trans (hal.mono hbr.size)
        have hbs := hB.size
        have HST := Lib.hid hst
        have HSL := Lib.hid hsl2
        have HDD := Lib.hid (show y.data.length ≤ dc ∧ IsB W D y.data.length y.data from ⟨hdc, hD⟩)
        have hrg2 : wr.rangeAt b0 (o0 + j * 5) (mdV y D dc).toArray.toList := by simpa using hrg
        have finish : ∀ (A8 : Option Addr) (c8 : Nat) (w8 : World), OwnV w8 W.heap.size 35 5 A8 (sl.length + 1) c8 (mqs qs ++ mdV y D dc) → (wr.alloc (.cells (mdV y D dc).toArray 35)).grownBy w8 (Value.slice A1 sl.length c1).ownBlock → ShrMs W w8 W.heap.size A8 (selM wd (ms.take (j + 1))).length c8 (qs ++ [(y, D, dc)]) (selM wd (ms.take (j + 1))) ∧ Below W.heap.size W w8 := fun A8 c8 w8 h28 h38 => by
          have h1 := hob.app HDD.out h28
          rw [HSL.out, HST.out]
          exact ⟨h1, hB.grown h38 hbs (fun k hk => (hob.ro.ge k hk).1)⟩
        have FIN := Lib.hid finish
        clear hst hsl2 finish hdc hD hrg
        by_cases hc : y.width = wd
        · have e1 : (y.width == wd) = true := by simpa using hc
          clear hc hp
          go_wp2_with (first | ((with_reducible refine wp_load_g ?_ hrg2 Tryd.underlying35 rfl (info35 _ _ _) ?_ ?_); rfl; rfl) | (refine wp_build_1 (P := Tryd.prog) rfl rfl Tryd.underlying25 info_md (L := (mdV y D dc).toArray) rfl (by omega) (by omega) rfl ?_) | (at_builtin; (refine wp_append_v (P := Tryd.prog) rfl _ _ 25 rfl Tryd.underlying25 info_md rfl (by omega) hob.ro rx rfl (mdV_ones _ _ _) (by omega) (by omega) hbs rfl rfl ?_); intro A8 c8 w8 h28 h38))
          have hF := FIN.out A8 c8 w8 h28 h38
          exact ⟨⟨j + 1, A8, c8, _, by omega, by go_num, by rw [HSL.out], hF.1, hF.2⟩, by simp [intOf]; omega⟩
        · have hz : y.width = 0 := by simp [hc] at hp; exact hp
          have e1 : (y.width == wd) = false := by simpa using hc
          have e2 : (y.width == 0) = true := by simpa using hz
          clear hc hp hz
          go_wp2_with (first | ((with_reducible refine wp_load_g ?_ hrg2 Tryd.underlying35 rfl (info35 _ _ _) ?_ ?_); rfl; rfl) | (refine wp_build_1 (P := Tryd.prog) rfl rfl Tryd.underlying25 info_md (L := (mdV y D dc).toArray) rfl (by omega) (by omega) rfl ?_) | (at_builtin; (refine wp_append_v (P := Tryd.prog) rfl _ _ 25 rfl Tryd.underlying25 info_md rfl (by omega) hob.ro rx rfl (mdV_ones _ _ _) (by omega) (by omega) hbs rfl rfl ?_); intro A8 c8 w8 h28 h38))
          have hF := FIN.out A8 c8 w8 h28 h38
          exact ⟨⟨j + 1, A8, c8, _, by omega, by go_num, by rw [HSL.out], hF.1, hF.2⟩, by simp [intOf]; omega⟩
      · rw [if_neg hp] at hst
        rw [Bool.or_eq_true, not_or] at hp
        have e1 : (y.width == wd) = false := by simpa using hp.1
        have e2 : (y.width == 0) = false := by simpa using hp.2
        have HST := Lib.hid hst
        clear hst hp hdc hD hrg
        go_wp2
        exact ⟨⟨j + 1, A1, c1, qs, by omega, by go_num, by rw [HST.out], by rw [HST.out]; exact ho, hbr⟩, by simp [intOf]; omega⟩
    · obtain rfl : j = ms.length := by omega
      have d1 : decide (ms.length < ms.length) = false := by simp
      rw [List.take_length] at ho ⊢
      have HC := Lib.hid ho.ro.cap
      have HM := Lib.hid (ho.isMs hbr)
      clear ho
      go_wp2
      go_ret
      exact ⟨A1, c1, rfl, HM.out, HC.out, hbr⟩
end Go.Proofs.YtigbmlgllgcbhaaDoor
