/- Image: a copy of modules; Select. -/
import Derived.Test.YtigbmlgllgcbhaaDoorIj
namespace Go.Proofs.YtigbmlgllgcbhaaDoor
open Go.RowKit
set_option linter.unusedVariables false
set_option linter.unusedSimpArgs false
/-- A new list of modules is handed back. -/
def NewMs (ms : List Md) (W : World) (en : Ending) (W' : World) : Prop := ∃ A c qs, en = .returned (.slice A ms.length c) ∧ OwnMs W' W.heap.size A ms.length c qs ms ∧ Below W.heap.size W W'
set_option maxRecDepth 100000 in
set_option maxHeartbeats 8000000 in
theorem copied16 (ms : List Md) (A : Option Addr) (c : Nat) (W : World) (hM : IsMs W A ms.length ms) (hc : ms.length ≤ c) (hml : ms.length ≤ 1000000) (hdl : ∀ m ∈ ms, m.data.length ≤ 1000000000) : Calls Tryd.prog 16 #[.slice A ms.length c] W (NewMs ms W) := by
  go_enter Tryd.func16, Tryd.ntmps16
  go_upto_region 3 with (fail)
  go_loopw [3, 4] (fun v i wr => ∃ (j : Nat) (A1 : Option Addr) (e1 : Nat) (qs : List Mq), j ≤ ms.length ∧ i = .int .i64 j ∧ v = .slice A1 j e1 ∧ OwnMs wr W.heap.size A1 j e1 qs (ms.take j) ∧ Below W.heap.size W wr) (fun _ i _ => ms.length - (intOf i).toNat)
  case atStart => exact ⟨0, none, 0, [], by omega, rfl, rfl, OwnMs.nil _ _, Below.refl _ _⟩
  case round =>
    obtain ⟨j, A1, e1, qs, hj, rfl, rfl, ho, hB⟩ := hrel
    rcases Nat.lt_or_ge j ms.length with hjl | hjl
    · have d1 : decide (j < ms.length) = true := decide_eq_true hjl
      have hji : (j : Int) < ms.length := by omega
      have hj0 : (0 : Int) ≤ (j : Int) := by omega
      have hWr : W.heap.size ≤ wr.heap.size := hB.size
      obtain ⟨b, o, hA, hcc⟩ := (hM.below hB).2 (by omega)
      subst hA
      obtain ⟨D, dc, hrg, hdc, hID⟩ := hcc j hjl
      have hdl1 := hdl _ (List.getElem_mem hjl)
      obtain ⟨m, hm⟩ : ∃ m, ms[j] = m := ⟨_, rfl⟩
      rw [hm] at hrg hdc hID hdl1
      have HM := Lib.hid hm
      have hrg2 : wr.rangeAt b (o + j * 5) (mdV m D dc).toArray.toList := by simpa using hrg
      clear hcc hrg hm
      go_upto_region 6 with (first | ((with_reducible refine wp_load_g ?_ hrg2 Tryd.underlying35 rfl (info35 _ _ _) ?_ ?_); rfl; rfl) | ((with_reducible refine wp_row_store (L := (mdV m D dc).toArray) (Row.bornAt (g := wr.heap.size) rfl 35 _) ?_ (info35 _ _ _) (mdV_one _ _ _) ?_ ?_ ?_); rfl; rfl; rfl; intro w3 u3 r3))
      have hal := Upd.below ((Below.refl wr.heap.size wr).alloc (Nat.le_refl _) (.cells ZM 35)) u3 (Nat.le_refl _)
      have hne := ho.lt rfl
      have ho := ho.below hal
      have hID := hID.below hal
      have hB := hB.trans (hal.mono hB.size)
      have hWg := hB.size
      have hWr : W.heap.size ≤ wr.heap.size := by assumption
      clear hal u3 hrg2
      generalize wr.heap.size = g at *
      obtain ⟨c0, c1, c2, c3, c4⟩ := md_cells r3
      go_upto_region 7 with (at_builtin; (refine wp_append_b (P := Tryd.prog) rfl _ _ 23 rfl Tryd.underlying23 info_u8 (OwnB.nil _ W.heap.size _) hID (by omega) hWg rfl rfl ?_); intro A5 n5 c5 w5 hn5 ho5 hb5 hg5 hat5; have hbb := below_none hg5; have r5 := r3.below hbb r3.lt; have q4 := r5.cell 4; have q4 : _ = some (Value.slice D m.data.length dc) := q4; have f4 := r5.frozen 4)
      have hq5 := hn5.out
      rw [Nat.zero_add] at hq5
      subst hq5
      rw [List.nil_append] at ho5
      have u5 := Upd.setCell w5 g 4 (.slice A5 m.data.length c5)
      have ho := (ho.below hbb).upd u5 r5 hne
      have hd5 := ho5.keeps (Keeps.upd (ts := [35]) u5 r5 (by simp)) (by decide)
      have r6 := Row.data r5 (D2 := A5) (dc2 := c5) m ⟨rfl, rfl, rfl, rfl⟩
      have hB := Upd.below (hB.trans (hbb.mono hWg)) u5 hWr
      clear u5 r5 q4 f4 hbb hg5 hat5 hb5 ho5 c0 c1 c2 c3 c4 r3 hID hWg
      generalize w5.setCell ⟨g, 4, none⟩ (.slice A5 m.data.length c5) = w6 at *
      have hrx := Row.range r6
      have hal := (Below.refl w6.heap.size w6).alloc (Nat.le_refl _) (.cells (mdV m A5 c5).toArray 35)
      have hob := ho.below hal
      have hdb := hd5.below hal
      have rx := Row.born w6 35 (mdV m A5 c5).toArray
      have hB := hB.trans (hal.mono hB.size)
      have hbs := hB.size
      go_upto_region 4 with (first | ((with_reducible refine wp_load_g ?_ hrx Tryd.underlying35 rfl (info35 _ _ _) ?_ ?_); rfl; rfl) | (refine wp_build_1 (P := Tryd.prog) rfl rfl Tryd.underlying25 info_md (L := (mdV m A5 c5).toArray) rfl (by omega) (by omega) rfl ?_) | (at_builtin; (refine wp_append_v (P := Tryd.prog) rfl _ _ 25 rfl Tryd.underlying25 info_md rfl (by omega) hob.ro rx rfl (mdV_ones _ _ _) (by omega) (by omega) hbs rfl rfl ?_); intro A8 c8 w8 h28 h38))
      have hB := hB.grown h38 hbs (fun k hk => (hob.ro.ge k hk).1)
      have ho := hob.app hdb h28 h38
      clear hrx hal hob hdb rx h28 h38 hbs hd5 r6
      have HT := Lib.hid (show ms.take j ++ [m] = ms.take (j + 1) by rw [List.take_succ_eq_append_getElem hjl, HM.out])
      rw [HT.out] at ho
      go_wp2
      exact ⟨⟨j + 1, A8, c8, _, by omega, by go_num, rfl, ho, hB⟩, by simp [intOf]; omega⟩
    · obtain rfl : j = ms.length := by omega
      have d1 : decide (ms.length < ms.length) = false := by simp
      rw [List.take_length] at ho
      go_wp2
      go_ret
      exact ⟨A1, e1, qs, rfl, ho, hB⟩
def selM (wd : Int) (ms : List Md) : List Md := ms.filter fun m => m.width == wd || m.width == 0
theorem selM_step (wd : Int) (ms : List Md) (j : Nat) (h : j < ms.length) {m : Md} (hm : ms[j] = m) : selM wd (ms.take (j + 1)) = if (m.width == wd || m.width == 0) = true then selM wd (ms.take j) ++ [m] else selM wd (ms.take j) := by
  subst hm
  rw [List.take_succ_eq_append_getElem h]
  unfold selM
  rw [List.filter_append, List.filter_cons]
  split <;> simp
set_option maxRecDepth 100000 in
set_option maxHeartbeats 8000000 in
theorem select22 (ms : List Md) (wd : Int) (A : Option Addr) (c : Nat) (W : World) (hM : IsMs W A ms.length ms) (hc : ms.length ≤ c) (hml : ms.length ≤ 1000000) (hdl : ∀ m ∈ ms, m.data.length ≤ 1000000000) : Calls Tryd.prog 22 #[.slice A ms.length c, .int .i64 wd] W (NewMs (selM wd ms) W) := by
  go_enter Tryd.func22, Tryd.ntmps22
  go_upto_region 3 with (fail)
  go_loopw [5, 10] (fun v i wr => ∃ (j : Nat) (A1 : Option Addr) (e1 k1 : Nat) (qs : List Mq), j ≤ ms.length ∧ i = .int .i64 j ∧ v = .slice A1 k1 e1 ∧ OwnMs wr W.heap.size A1 k1 e1 qs (selM wd (ms.take j)) ∧ Below W.heap.size W wr ∧ k1 ≤ j) (fun _ i _ => ms.length - (intOf i).toNat)
  case atStart => exact ⟨0, none, 0, 0, [], by omega, rfl, rfl, OwnMs.nil _ _, Below.refl _ _, by omega⟩
  case round =>
    obtain ⟨j, A1, e1, k1, qs, hj, rfl, rfl, ho, hB, hk1⟩ := hrel
    rcases Nat.lt_or_ge j ms.length with hjl | hjl
    · have d1 : decide (j < ms.length) = true := decide_eq_true hjl
      have hji : (j : Int) < ms.length := by omega
      have hj0 : (0 : Int) ≤ (j : Int) := by omega
      have hWr : W.heap.size ≤ wr.heap.size := hB.size
      obtain ⟨b, o, hA, hcc⟩ := (hM.below hB).2 (by omega)
      subst hA
      obtain ⟨D, dc, hrg, hdc, hID⟩ := hcc j hjl
      have hdl1 := hdl _ (List.getElem_mem hjl)
      obtain ⟨m, hm⟩ : ∃ m, ms[j] = m := ⟨_, rfl⟩
      rw [hm] at hrg hdc hID hdl1
      have HM := Lib.hid hm
      have hrg2 : wr.rangeAt b (o + j * 5) (mdV m D dc).toArray.toList := by simpa using hrg
      clear hcc hrg hm
      go_upto_region 5 with (first | ((with_reducible refine wp_load_g ?_ hrg2 Tryd.underlying35 rfl (info35 _ _ _) ?_ ?_); rfl; rfl) | ((with_reducible refine wp_row_store (L := (mdV m D dc).toArray) (Row.bornAt (g := wr.heap.size) rfl 35 _) ?_ (info35 _ _ _) (mdV_one _ _ _) ?_ ?_ ?_); rfl; rfl; rfl; intro w3 u3 r3))
      have hal := Upd.below ((Below.refl wr.heap.size wr).alloc (Nat.le_refl _) (.cells ZM 35)) u3 (Nat.le_refl _)
      have hne := ho.lt rfl
      have ho := ho.below hal
      have hID := hID.below hal
      have hB := hB.trans (hal.mono hB.size)
      have hWg := hB.size
      have hWr : W.heap.size ≤ wr.heap.size := by assumption
      clear hal u3 hrg2
      generalize wr.heap.size = g at *
      by_cases hw1 : m.width = wd
      · have HS := Lib.hid (show (m.width == wd || m.width == 0) = true by simp [hw1])
        have b1 : (m.width == wd) = true := by simp [hw1]
        clear hw1
        have HT := Lib.hid (show selM wd (ms.take j) ++ [m] = selM wd (ms.take (j + 1)) by rw [selM_step wd ms j hjl HM.out, if_pos HS.out])
        obtain ⟨c0, c1, c2, c3, c4⟩ := md_cells r3
        go_upto_region 6 with (fail)
        clear c0 c1 c2 c3 c4
        have hal0 := (Below.refl w3.heap.size w3).alloc (Nat.le_refl _) (.cells #[] 5)
        have hE0 := OwnB.lit0 (Row.born w3 5 #[]) hWg
        have hIDa := hID.below hal0
        have hWga := Nat.le_trans hWg hal0.size
        obtain ⟨c0, c1, c2, c3, c4⟩ := md_cells (r3.below hal0 r3.lt)
        go_upto_region 7 with (at_builtin; (refine wp_append_b (P := Tryd.prog) rfl _ _ 23 rfl Tryd.underlying23 info_u8 hE0 hIDa (by omega) hWga rfl rfl ?_); intro A5 n5 c5 w5 hn5 ho5 hb5 hg5 hat5; have hbb := hal0.grown hg5 hal0.size (fun k hk => Nat.le_of_eq (Option.some.inj hk)); have r5 := r3.below hbb r3.lt; have q4 := r5.cell 4; have q4 : _ = some (Value.slice D m.data.length dc) := q4; have f4 := r5.frozen 4)
        have hq5 := hn5.out
        rw [Nat.zero_add] at hq5
        subst hq5
        rw [List.nil_append] at ho5
        have u5 := Upd.setCell w5 g 4 (.slice A5 m.data.length c5)
        have ho := (ho.below hbb).upd u5 r5 hne
        have hd5 := ho5.keeps (Keeps.upd (ts := [35]) u5 r5 (by simp)) (by decide)
        have r6 := Row.data r5 (D2 := A5) (dc2 := c5) m ⟨rfl, rfl, rfl, rfl⟩
        have hB := Upd.below (hB.trans (hbb.mono hWg)) u5 hWr
        clear u5 r5 q4 f4 hbb hg5 hat5 hb5 ho5 c0 c1 c2 c3 c4 r3 hID hWg
        generalize w5.setCell ⟨g, 4, none⟩ (.slice A5 m.data.length c5) = w6 at *
        have hrx := Row.range r6
        have hal := (Below.refl w6.heap.size w6).alloc (Nat.le_refl _) (.cells (mdV m A5 c5).toArray 35)
        have hob := ho.below hal
        have hdb := hd5.below hal
        have rx := Row.born w6 35 (mdV m A5 c5).toArray
        have hB := hB.trans (hal.mono hB.size)
        have hbs := hB.size
        go_upto_region 8 with (first | ((with_reducible refine wp_load_g ?_ hrx Tryd.underlying35 rfl (info35 _ _ _) ?_ ?_); rfl; rfl) | (refine wp_build_1 (P := Tryd.prog) rfl rfl Tryd.underlying25 info_md (L := (mdV m A5 c5).toArray) rfl (by omega) (by omega) rfl ?_) | (at_builtin; (refine wp_append_v (P := Tryd.prog) rfl _ _ 25 rfl Tryd.underlying25 info_md rfl (by omega) hob.ro rx rfl (mdV_ones _ _ _) (by omega) (by omega) hbs rfl rfl ?_); intro A8 c8 w8 h28 h38))
        have hB := hB.grown h38 hbs (fun k hk => (hob.ro.ge k hk).1)
        have ho := hob.app hdb h28 h38
        clear hrx hal hob hdb rx h28 h38 hbs hd5 r6
        rw [HT.out] at ho
        go_wp2
        exact ⟨⟨j + 1, A8, c8, _, _, by omega, by go_num, rfl, ho, hB, by omega⟩, by simp [intOf]; omega⟩

      have b1 : (m.width == wd) = false := by simp [hw1]
      clear hw1
      by_cases hw2 : m.width = 0
      · have HS := Lib.hid (show (m.width == wd || m.width == 0) = true by simp [hw2])
        have b2 : (m.width == 0) = true := by simp [hw2]
        clear hw2
        have HT := Lib.hid (show selM wd (ms.take j) ++ [m] = selM wd (ms.take (j + 1)) by rw [selM_step wd ms j hjl HM.out, if_pos HS.out])
        obtain ⟨c0, c1, c2, c3, c4⟩ := md_cells r3
        go_upto_region 6 with (fail)
        clear c0 c1 c2 c3 c4
        have hal0 := (Below.refl w3.heap.size w3).alloc (Nat.le_refl _) (.cells #[] 5)
        have hE0 := OwnB.lit0 (Row.born w3 5 #[]) hWg
        have hIDa := hID.below hal0
        have hWga := Nat.le_trans hWg hal0.size
        obtain ⟨c0, c1, c2, c3, c4⟩ := md_cells (r3.below hal0 r3.lt)
        go_upto_region 7 with (at_builtin; (refine wp_append_b (P := Tryd.prog) rfl _ _ 23 rfl Tryd.underlying23 info_u8 hE0 hIDa (by omega) hWga rfl rfl ?_); intro A5 n5 c5 w5 hn5 ho5 hb5 hg5 hat5; have hbb := hal0.grown hg5 hal0.size (fun k hk => Nat.le_of_eq (Option.some.inj hk)); have r5 := r3.below hbb r3.lt; have q4 := r5.cell 4; have q4 : _ = some (Value.slice D m.data.length dc) := q4; have f4 := r5.frozen 4)
        have hq5 := hn5.out
        rw [Nat.zero_add] at hq5
        subst hq5
        rw [List.nil_append] at ho5
        have u5 := Upd.setCell w5 g 4 (.slice A5 m.data.length c5)
        have ho := (ho.below hbb).upd u5 r5 hne
        have hd5 := ho5.keeps (Keeps.upd (ts := [35]) u5 r5 (by simp)) (by decide)
        have r6 := Row.data r5 (D2 := A5) (dc2 := c5) m ⟨rfl, rfl, rfl, rfl⟩
        have hB := Upd.below (hB.trans (hbb.mono hWg)) u5 hWr
        clear u5 r5 q4 f4 hbb hg5 hat5 hb5 ho5 c0 c1 c2 c3 c4 r3 hID hWg
        generalize w5.setCell ⟨g, 4, none⟩ (.slice A5 m.data.length c5) = w6 at *
        have hrx := Row.range r6
        have hal := (Below.refl w6.heap.size w6).alloc (Nat.le_refl _) (.cells (mdV m A5 c5).toArray 35)
        have hob := ho.below hal
        have hdb := hd5.below hal
        have rx := Row.born w6 35 (mdV m A5 c5).toArray
        have hB := hB.trans (hal.mono hB.size)
        have hbs := hB.size
        go_upto_region 8 with (first | ((with_reducible refine wp_load_g ?_ hrx Tryd.underlying35 rfl (info35 _ _ _) ?_ ?_); rfl; rfl) | (refine wp_build_1 (P := Tryd.prog) rfl rfl Tryd.underlying25 info_md (L := (mdV m A5 c5).toArray) rfl (by omega) (by omega) rfl ?_) | (at_builtin; (refine wp_append_v (P := Tryd.prog) rfl _ _ 25 rfl Tryd.underlying25 info_md rfl (by omega) hob.ro rx rfl (mdV_ones _ _ _) (by omega) (by omega) hbs rfl rfl ?_); intro A8 c8 w8 h28 h38))
        have hB := hB.grown h38 hbs (fun k hk => (hob.ro.ge k hk).1)
        have ho := hob.app hdb h28 h38
        clear hrx hal hob hdb rx h28 h38 hbs hd5 r6
        rw [HT.out] at ho
        go_wp2
        exact ⟨⟨j + 1, A8, c8, _, _, by omega, by go_num, rfl, ho, hB, by omega⟩, by simp [intOf]; omega⟩

      have b2 : (m.width == 0) = false := by simp [hw2]
      have HT := Lib.hid (show selM wd (ms.take j) = selM wd (ms.take (j + 1)) by rw [selM_step wd ms j hjl HM.out, if_neg (by rw [b1, b2]; decide)])
      clear hw2
      obtain ⟨c0, c1, c2, c3, c4⟩ := md_cells r3
      rw [HT.out] at ho
      go_wp2
      exact ⟨⟨j + 1, A1, e1, k1, _, by omega, by go_num, rfl, ho, hB, by omega⟩, by simp [intOf]; omega⟩
    · obtain rfl : j = ms.length := by omega
      have d1 : decide (ms.length < ms.length) = false := by simp
      rw [List.take_length] at ho
      have hln := ho.ln
      go_wp2
      go_ret
      exact ⟨A1, e1, qs, by (rw [← hln]; rfl), by (rw [← hln]; exact ho), hB⟩
end Go.Proofs.YtigbmlgllgcbhaaDoor
