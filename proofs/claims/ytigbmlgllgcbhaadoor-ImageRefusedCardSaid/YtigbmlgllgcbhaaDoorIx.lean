/- Image: ImageRefused. -/
import Derived.Test.YtigbmlgllgcbhaaDoorIw
import Derived.Deep.RegionHeld3
namespace Go.Proofs.YtigbmlgllgcbhaaDoor
open Go.RowKit
set_option linter.unusedVariables false
set_option linter.unusedSimpArgs false
/-- A copy with one module more, whose data is not the copy's own. -/
theorem isMs_app {w w' : World} {base n c c2 : Nat} {A A2 : Option Addr} {qs : List Mq} {ms : List Md} (h : OwnMs w base A n c qs ms) {m : Md} {D : Option Addr} {dc : Nat} (hdc : m.data.length ≤ dc) (hD : IsB w' D m.data.length m.data) (h2 : OwnV w' base 35 5 A2 (n + 1) c2 (mqs qs ++ mdV m D dc)) (h3 : w.grownBy w' (Value.slice A n c).ownBlock) : IsMs w' A2 (n + 1) (ms ++ [m]) ∧ n + 1 ≤ c2 := by
  have k : Keeps [35] w w' := Keeps.grown h3 h.ro.typed
  have hq := h.qd.keeps k (by decide)
  obtain ⟨he, hn, -, -⟩ := h
  subst he
  have e : mqs (qs ++ [(m, D, dc)]) = mqs qs ++ mdV m D dc := by simp [mqs]
  rw [← e] at h2
  refine ⟨⟨by simp; simpa using hn, fun h0 => ?_⟩, h2.cap⟩
  obtain ⟨g, rfl, -, -⟩ := h2.form h0
  refine ⟨g, 0, rfl, fun r hr => ?_⟩
  have hr2 : r < (qs ++ [(m, D, dc)]).length := by simpa using hr
  have hn2 : n = qs.length := by simpa using hn
  have hm : (qs ++ [(m, D, dc)])[r].1.data.length ≤ (qs ++ [(m, D, dc)])[r].2.2 ∧ IsB w' (qs ++ [(m, D, dc)])[r].2.1 (qs ++ [(m, D, dc)])[r].1.data.length (qs ++ [(m, D, dc)])[r].1.data := by
    rcases Nat.lt_or_ge r qs.length with hlt | hge
    · rw [List.getElem_append_left hlt]
      have := hq _ (List.getElem_mem hlt)
      exact ⟨this.capM, this.isB⟩
    · obtain rfl : r = qs.length := by simp at hr2; omega
      simp only [List.getElem_concat_length]
      exact ⟨hdc, hD⟩
  have hgm : (List.map (fun x => x.1) qs ++ [m])[r]'hr = (qs ++ [(m, D, dc)])[r].1 := by
    rcases Nat.lt_or_ge r qs.length with hlt | hge
    · rw [List.getElem_append_left (by simpa using hlt), List.getElem_append_left hlt]; simp
    · obtain rfl : r = qs.length := by simp at hr2; omega
      simp
  rw [hgm]
  refine ⟨(qs ++ [(m, D, dc)])[r].2.1, (qs ++ [(m, D, dc)])[r].2.2, fun i v hv => ?_, hm.1, hm.2⟩
  have hi : i < 5 := by
    have := (List.getElem?_eq_some_iff.1 hv).1
    simpa [mdV] using this
  have h1 := World.ownsRow.cellAt (show w'.ownsRow base 35 5 (.slice (some ⟨g, 0, none⟩) (n + 1) c2) (n + 1) (mqs (qs ++ [(m, D, dc)])) from h2) (5 * r + i) (by simp at hr2; omega)
  rw [mqs_get (qs ++ [(m, D, dc)]) r i hr2 hi] at h1
  rw [show 0 + r * 5 + i = 5 * r + i by omega, h1]
  simpa using hv
theorem build_no {ms : List Md} {n : Nat} {E : Int} (hn : n = ms.length) (h : bldE ms = E) (h0 : E ≠ 0) (A : Option Addr) (c : Nat) (W : World) (hM : IsMs W A n ms) (hc : n ≤ c) (hnl : ∀ m ∈ ms, m.name.length ≤ 1000000000) (hdl : ∀ m ∈ ms, m.data.length ≤ 1000000000) : Calls Tryd.prog 12 #[.slice A n c] W (fun en W' => en = .returned (.tuple #[.slice none 0 0, .int .i64 E]) ∧ Below W.heap.size W W') := by
  subst hn
  subst h
  refine (build ms A c W hM hc hnl hdl).mono ?_
  rintro en W' (⟨-, h1⟩ | ⟨h1, -⟩)
  · exact h1
  · exact absurd h1 h0
theorem bld_app {ms : List Md} {m : Md} {E : Int} (hg : GoodMs ms) (h : chkE m ms = E) (h0 : E ≠ 0) : bldE (ms ++ [m]) = E := by
  have h1 := fstG_snoc ms [] m hg.fst
  rw [List.nil_append, h] at h1
  unfold bldE
  rw [if_neg (by have := hg.len; simp; omega), if_pos (by show fstG [] (ms ++ [m]) ≠ 0; rw [h1]; exact h0)]
  exact h1
def ZM3 : Array Value := #[.string ⟨#[]⟩, .int .i64 0, .int .i64 0, .int .i64 0, .slice none 0 0]
theorem zm_cells {w : World} {gm : Nat} (h : Row w gm 35 ZM3) : (w.cell? ⟨gm, 0, none⟩ = some (.string ⟨#[]⟩) ∧ w.cell? ⟨gm, 1, none⟩ = some (.int .i64 0) ∧ w.cell? ⟨gm, 2, none⟩ = some (.int .i64 0) ∧ w.cell? ⟨gm, 3, none⟩ = some (.int .i64 0) ∧ w.cell? ⟨gm, 4, none⟩ = some (.slice none 0 0)) ∧ w.frozen? ⟨gm, 0, none⟩ = false ∧ w.frozen? ⟨gm, 1, none⟩ = false ∧ w.frozen? ⟨gm, 2, none⟩ = false ∧ w.frozen? ⟨gm, 3, none⟩ = false ∧ w.frozen? ⟨gm, 4, none⟩ = false :=
  ⟨⟨h.cell 0, h.cell 1, h.cell 2, h.cell 3, h.cell 4⟩, h.frozen 0, h.frozen 1, h.frozen 2, h.frozen 3, h.frozen 4⟩
theorem row_set5 {w : World} {gm : Nat} (h : Row w gm 35 ZM3) (m : Md) (D : Option Addr) (dc : Nat) : Row (w.setCells gm 0 (mdV m D dc)) gm 35 (mdV m D dc).toArray := by
  have := Row.setCells (g := gm) (t := 35) (mdV m D dc) w [] [] ZM3.toList (by simpa [ZM3] using h) rfl
  simpa using this
theorem zer_isB {w : World} {g n : Nat} (h : Row w g 5 (List.replicate n (.int .u8 0)).toArray) : IsB w (some ⟨g, 0, none⟩) (List.replicate n (0 : UInt8)).length (List.replicate n 0) := by
  rw [bv_zeros] at h
  exact IsB.of_row h
theorem OwnMs.first {w : World} {base n c : Nat} {A : Option Addr} {qs : List Mq} {ms : List Md} (h : OwnMs w base A n c qs ms) (hz : 0 < ms.length) : ∃ b D dc, A = some ⟨b, 0, none⟩ ∧ w.rangeAt b 0 (mdV ms[0] D dc) ∧ ms[0].data.length ≤ dc ∧ OwnB w base 5 D ms[0].data.length dc ms[0].data := by
  obtain ⟨rfl, hn, ho, hd⟩ := h
  have hn2 : n = qs.length := by simpa using hn
  have hr2 : 0 < qs.length := by simpa using hz
  obtain ⟨g, rfl, -, -⟩ := ho.form (by omega)
  have hm := hd _ (List.getElem_mem hr2)
  refine ⟨g, qs[0].2.1, qs[0].2.2, rfl, fun i v hv => ?_, ?_, ?_⟩
  · have hi : i < 5 := by
      have := (List.getElem?_eq_some_iff.1 hv).1
      simpa [mdV] using this
    have h1 := World.ownsRow.cellAt (show w.ownsRow base 35 5 (.slice (some ⟨g, 0, none⟩) n c) n (mqs qs) from ho) (5 * 0 + i) (by omega)
    rw [mqs_get qs 0 i hr2 hi] at h1
    rw [show 0 + i = 5 * 0 + i by omega, h1]
    simpa using hv
  · simpa using hm.capM
  · simpa using hm
theorem dup_first {ms : List Md} (hg : GoodMs ms) (h : 0 < ms.length) : chkE ms[0] ms = 56 := by
  have h1 := hg.chk 0 h
  obtain ⟨cn, ck, cw, ca, ce0, ce1, cf⟩ := chk_all h1
  unfold chkE
  rw [if_pos cn, if_neg (by rw [cw]; simp; omega), if_neg (fun hh => by have := ca hh.1; omega), if_neg (by omega), if_pos (hg.found 0 h).1]
set_option maxRecDepth 100000 in
set_option maxHeartbeats 8000000 in
theorem walk_refused (W : World) (a0 : Option Addr) (len0 cap0 : Nat) (z0 : List Int) (how : Int) (w0 : IsRow .i64 W a0 len0 cap0 z0) (wh : (Lit.int .i64 how).wf = true) : Calls Tryd.prog 7 #[.slice a0 len0 cap0, .int .i64 how] W (True1 W) := by
  obtain ⟨l, hL, hl9⟩ := w0.isN
  obtain rfl := hL.1
  clear w0
  have AW := Lib.hid (fun (w : World) (hB : Below W.heap.size W w) => (awake w).mono (R' := fun en w' => en = .returned (.bool true) ∧ Below W.heap.size W w') (fun en w' h => ⟨h.1, hB.trans (h.2.mono hB.size)⟩))
  have B0 := Below.refl W.heap.size W
  by_cases hl : 200 < l.length
  · have d0 : decide (200 < l.length) = true := decide_eq_true hl
    have d0i : decide ((200 : Int) < (l.length : Int)) = true := decide_eq_true (by omega)
    clear hl
    go_enter Tryd.func7, Tryd.ntmps7
    go_wp2_with (go_at_call 10; (with_reducible refine (AW.out _ B0).mono ?_); rintro en w9 ⟨rfl, hB9⟩)
    go_ret
    exact ⟨rfl, hB9⟩
  have d0 : decide (200 < l.length) = false := decide_eq_false hl
  have d0i : decide ((200 : Int) < (l.length : Int)) = false := decide_eq_false (by omega)
  have MO := Lib.hid (modules l a0 cap0 W hL (by omega))
  clear hL
  go_enter Tryd.func7, Tryd.ntmps7
  go_upto_region 4 with (go_at_call 11; (with_reducible refine MO.out.mono ?_); rintro en w1 ⟨ms, A, c, qs, hg, rfl, ho, hB⟩)
  have h0 := Int.emod_nonneg how (show (7 : Int) ≠ 0 by decide)
  have h1 := Int.emod_lt_of_pos how (show (0 : Int) < 7 by decide)
  have PL := fun w => place how 7 (by decide) (by decide) w
  obtain ⟨k, hk⟩ : ∃ k, how % 7 = k := ⟨_, rfl⟩
  rw [hk] at PL h0 h1
  have PL := Lib.hid PL
  clear d0 d0i MO B0 hk
  go_upto_region 10 with (go_at_call 15; refine (PL.out _).mono ?_; rintro en w9 ⟨rfl, rfl⟩)
  have kc1 : (wr : World) → Below wr.heap.size wr wr := fun wr => Below.refl _ _
  have hB1 := hB.trans (((Below.refl _ w1).alloc (Nat.le_refl _) (.cells #[.string ⟨#[]⟩, .int .i64 0, .int .i64 0, .int .i64 0, .slice none 0 0] 35)).mono hB.size)
  clear kc1
  rcases (by omega : k = 0 ∨ k = 1 ∨ k = 2 ∨ k = 3 ∨ k = 4 ∨ k = 5 ∨ k = 6) with rfl | rfl | rfl | rfl | rfl | rfl | rfl
  · go_upto_region 22 with (fail)
    have hal : Below w1.heap.size w1 (w1.alloc (.cells #[.string ⟨#[49, 97]⟩, .int .i64 3, .int .i64 0, .int .i64 0, .slice none 0 0] 35)) := (Below.refl w1.heap.size w1).alloc (Nat.le_refl _) _
    have rm : Row (w1.alloc (.cells #[.string ⟨#[49, 97]⟩, .int .i64 3, .int .i64 0, .int .i64 0, .slice none 0 0] 35)) w1.heap.size 35 (mdV (⟨[49, 97], 3, 0, 0, []⟩ : Md) none 0).toArray := Row.born w1 35 _
    have HD := Lib.hid (fun (w' : World) (_ : Keeps [35] (w1.alloc (.cells #[.string ⟨#[49, 97]⟩, .int .i64 3, .int .i64 0, .int .i64 0, .slice none 0 0] 35)) w') => IsB.nil w' none)
    have HE := Lib.hid (show chkE (⟨[49, 97], 3, 0, 0, []⟩ : Md) ms = 63 by unfold chkE; rfl)
    have ho := ho.below hal
    have hB := hB.trans (hal.mono hB.size)
    have hdc : (⟨[49, 97], 3, 0, 0, []⟩ : Md).data.length ≤ 0 := by decide
    clear hal hB1 PL
    generalize (w1.alloc (.cells #[.string ⟨#[49, 97]⟩, .int .i64 3, .int .i64 0, .int .i64 0, .slice none 0 0] 35)) = w3 at *
    generalize w1.heap.size = gm at *
    have hM3 := ho.isMs
    have hcp := ho.cap
    have HM := Lib.hid (fun (w : World) (hb : Below w3.heap.size w3 w) => copied16 ms A c w (hM3.below hb) hcp (by have := hg.len; omega) (fun x hx => by have := hg.dat x hx; omega))
    have HK := Lib.hid (fun (w : World) (hb : Below w3.heap.size w3 w) => (show w.cell? ⟨gm, 0, none⟩ = some (.string (sv (⟨[49, 97], 3, 0, 0, []⟩ : Md).name)) ∧ w.cell? ⟨gm, 1, none⟩ = some (.int .i64 (⟨[49, 97], 3, 0, 0, []⟩ : Md).kind) ∧ w.cell? ⟨gm, 2, none⟩ = some (.int .i64 (⟨[49, 97], 3, 0, 0, []⟩ : Md).width) ∧ w.cell? ⟨gm, 3, none⟩ = some (.int .i64 (⟨[49, 97], 3, 0, 0, []⟩ : Md).entry) ∧ w.cell? ⟨gm, 4, none⟩ = some (.slice none (⟨[49, 97], 3, 0, 0, []⟩ : Md).data.length 0) from ⟨(hb.cell (p := ⟨gm, 0, none⟩) rm.lt).trans (rm.cell 0), (hb.cell (p := ⟨gm, 1, none⟩) rm.lt).trans (rm.cell 1), (hb.cell (p := ⟨gm, 2, none⟩) rm.lt).trans (rm.cell 2), (hb.cell (p := ⟨gm, 3, none⟩) rm.lt).trans (rm.cell 3), (hb.cell (p := ⟨gm, 4, none⟩) rm.lt).trans (rm.cell 4)⟩))
    have HB := Lib.hid (fun (A5 : Option Addr) (c5 : Nat) (w : World) (h : IsMs w A5 (ms.length + 1) (ms ++ [(⟨[49, 97], 3, 0, 0, []⟩ : Md)]) ∧ ms.length + 1 ≤ c5) => build_no (E := 63) (by simp) (bld_app hg HE.out (by decide)) (by decide) A5 c5 w h.1 h.2 (fun x hx => by
      rcases List.mem_append.1 hx with hx | hx
      · have := hg.names x hx; omega
      · rw [List.mem_singleton.1 hx]; decide) (fun x hx => by
      rcases List.mem_append.1 hx with hx | hx
      · have := hg.dat x hx; omega
      · rw [List.mem_singleton.1 hx]; decide))
    have HKW := HK.out w3.drew (Below.refl _ _).drew
    have hmll := hg.len
    go_region_held3 (fun w' => w'.cell? ⟨gm, 0, none⟩ = some (.string (sv (⟨[49, 97], 3, 0, 0, []⟩ : Md).name)) ∧ w'.cell? ⟨gm, 1, none⟩ = some (.int .i64 (⟨[49, 97], 3, 0, 0, []⟩ : Md).kind) ∧ w'.cell? ⟨gm, 2, none⟩ = some (.int .i64 (⟨[49, 97], 3, 0, 0, []⟩ : Md).width) ∧ w'.cell? ⟨gm, 3, none⟩ = some (.int .i64 (⟨[49, 97], 3, 0, 0, []⟩ : Md).entry) ∧ w'.cell? ⟨gm, 4, none⟩ = some (.slice none (⟨[49, 97], 3, 0, 0, []⟩ : Md).data.length 0)) (first | exact HK.out _ (Below.refl _ _) | exact HK.out _ (Below.refl _ _).drew | exact HK.out _ ((Below.refl _ _).alloc (Nat.le_refl _) _) | exact HK.out _ ((Below.refl _ _).alloc (Nat.le_refl _) _).drew | exact HK.out _ hb5 | exact HK.out _ hb5.drew | exact HK.out _ (hb5.alloc hb5.size _) | exact HK.out _ (hb5.alloc hb5.size _).drew | exact HK.out _ hb7 | exact HK.out _ hb8) (first | (go_at_call 16; (with_reducible refine Calls.mono (HM.out _ (by first | exact Below.refl _ _ | exact (Below.refl _ _).drew | exact (Below.refl _ _).alloc (Nat.le_refl _) _ | exact ((Below.refl _ _).alloc (Nat.le_refl _) _).drew)) ?_); rintro en w4 ⟨A4, c4, qs4, rfl, ho4, hb4⟩; have hb5 : Below w3.heap.size w3 w4 := (by first | exact hb4 | exact ((Below.refl _ w3).drew).trans hb4 | exact (((Below.refl _ w3).alloc (Nat.le_refl _) _)).trans (hb4.mono (((Below.refl _ w3).alloc (Nat.le_refl _) _)).size) | exact (((Below.refl _ w3).alloc (Nat.le_refl _) _).drew).trans (hb4.mono (((Below.refl _ w3).alloc (Nat.le_refl _) _)).size)); have hb9 := (Below.refl w4.heap.size w4).alloc (Nat.le_refl _) (.cells (mdV (⟨[49, 97], 3, 0, 0, []⟩ : Md) none 0).toArray 35); have ho9 := ho4.below hb9; try (have r49 : Row w4 w3.heap.size 35 (mdV (⟨[49, 97], 3, 0, 0, []⟩ : Md) none 0).toArray := (by first | exact (Row.born w3 35 (mdV (⟨[49, 97], 3, 0, 0, []⟩ : Md) none 0).toArray).below hb4 (Row.born w3 35 (mdV (⟨[49, 97], 3, 0, 0, []⟩ : Md) none 0).toArray).lt | exact ((Row.born w3 35 (mdV (⟨[49, 97], 3, 0, 0, []⟩ : Md) none 0).toArray).below (Below.refl _ _).drew (Row.born w3 35 (mdV (⟨[49, 97], 3, 0, 0, []⟩ : Md) none 0).toArray).lt).below hb4 (Row.born w3 35 (mdV (⟨[49, 97], 3, 0, 0, []⟩ : Md) none 0).toArray).lt))) | (go_at_call 12; (with_reducible refine Calls.mono (HB.out _ _ _ hM6) ?_); rintro en w6 ⟨rfl, hb6⟩; have hb8 := hb7.trans (hb6.mono hb7.size)) | (refine step_append_v (P := Tryd.prog) (news := (mdV (⟨[49, 97], 3, 0, 0, []⟩ : Md) none 0)) Tryd.underlying25 info_md rfl (by decide) ho4.ro (by first | exact Row.born _ 35 _ | exact r49) rfl (mdV_ones _ _ _) (by omega) (by omega) hb4.size rfl rfl ?_; intro A5 c5 w5 h28 h38 hat; have k5 : Keeps [35] w3 w5 := (Keeps.below (hb5)).trans (Keeps.grown h38 ho4.ro.typed); have hM6 := isMs_app ho4 hdc (HD.out _ k5) h28 h38; have hb7 : Below w3.heap.size w3 w5 := (hb5.grown h38 hb5.size (fun k hk => Nat.le_trans (by first | exact Nat.le_refl _ | exact (((Below.refl _ w3).alloc (Nat.le_refl _) _)).size) (ho4.ro.ge k hk).1))) | (refine step_append_v (P := Tryd.prog) (news := (mdV (⟨[49, 97], 3, 0, 0, []⟩ : Md) none 0)) Tryd.underlying25 info_md rfl (by decide) ho9.ro (by first | exact Row.born _ 35 _ | exact r49) rfl (mdV_ones _ _ _) (by omega) (by omega) (Nat.le_trans hb4.size hb9.size) rfl rfl ?_; intro A5 c5 w5 h28 h38 hat; have k5 : Keeps [35] w3 w5 := (Keeps.below (hb5.trans (hb9.mono hb5.size))).trans (Keeps.grown h38 ho9.ro.typed); have hM6 := isMs_app ho9 hdc (HD.out _ k5) h28 h38; have hb7 : Below w3.heap.size w3 w5 := ((hb5.trans (hb9.mono hb5.size)).grown h38 (Nat.le_trans hb5.size hb9.size) (fun k hk => Nat.le_trans (by first | exact Nat.le_refl _ | exact (((Below.refl _ w3).alloc (Nat.le_refl _) _)).size) (ho4.ro.ge k hk).1))))
    all_goals have hB9 := hB.trans (hb8.mono hB.size)
    all_goals go_wp2_with (go_at_call 10; (with_reducible refine Calls.mono (AW.out _ (by first | exact hB9 | exact hB9.drew)) ?_); rintro en w9 ⟨rfl, hBF⟩)
    all_goals go_ret
    all_goals exact ⟨rfl, hBF⟩
  · go_upto_region 22 with (fail)
    have hal : Below w1.heap.size w1 (w1.alloc (.cells #[.string ⟨#[110, 101, 119]⟩, .int .i64 4, .int .i64 32, .int .i64 0, .slice none 0 0] 35)) := (Below.refl w1.heap.size w1).alloc (Nat.le_refl _) _
    have rm : Row (w1.alloc (.cells #[.string ⟨#[110, 101, 119]⟩, .int .i64 4, .int .i64 32, .int .i64 0, .slice none 0 0] 35)) w1.heap.size 35 (mdV (⟨[110, 101, 119], 4, 32, 0, []⟩ : Md) none 0).toArray := Row.born w1 35 _
    have HD := Lib.hid (fun (w' : World) (_ : Keeps [35] (w1.alloc (.cells #[.string ⟨#[110, 101, 119]⟩, .int .i64 4, .int .i64 32, .int .i64 0, .slice none 0 0] 35)) w') => IsB.nil w' none)
    have HE := Lib.hid (show chkE (⟨[110, 101, 119], 4, 32, 0, []⟩ : Md) ms = 6 by unfold chkE; rfl)
    have ho := ho.below hal
    have hB := hB.trans (hal.mono hB.size)
    have hdc : (⟨[110, 101, 119], 4, 32, 0, []⟩ : Md).data.length ≤ 0 := by decide
    clear hal hB1 PL
    generalize (w1.alloc (.cells #[.string ⟨#[110, 101, 119]⟩, .int .i64 4, .int .i64 32, .int .i64 0, .slice none 0 0] 35)) = w3 at *
    generalize w1.heap.size = gm at *
    have hM3 := ho.isMs
    have hcp := ho.cap
    have HM := Lib.hid (fun (w : World) (hb : Below w3.heap.size w3 w) => copied16 ms A c w (hM3.below hb) hcp (by have := hg.len; omega) (fun x hx => by have := hg.dat x hx; omega))
    have HK := Lib.hid (fun (w : World) (hb : Below w3.heap.size w3 w) => (show w.cell? ⟨gm, 0, none⟩ = some (.string (sv (⟨[110, 101, 119], 4, 32, 0, []⟩ : Md).name)) ∧ w.cell? ⟨gm, 1, none⟩ = some (.int .i64 (⟨[110, 101, 119], 4, 32, 0, []⟩ : Md).kind) ∧ w.cell? ⟨gm, 2, none⟩ = some (.int .i64 (⟨[110, 101, 119], 4, 32, 0, []⟩ : Md).width) ∧ w.cell? ⟨gm, 3, none⟩ = some (.int .i64 (⟨[110, 101, 119], 4, 32, 0, []⟩ : Md).entry) ∧ w.cell? ⟨gm, 4, none⟩ = some (.slice none (⟨[110, 101, 119], 4, 32, 0, []⟩ : Md).data.length 0) from ⟨(hb.cell (p := ⟨gm, 0, none⟩) rm.lt).trans (rm.cell 0), (hb.cell (p := ⟨gm, 1, none⟩) rm.lt).trans (rm.cell 1), (hb.cell (p := ⟨gm, 2, none⟩) rm.lt).trans (rm.cell 2), (hb.cell (p := ⟨gm, 3, none⟩) rm.lt).trans (rm.cell 3), (hb.cell (p := ⟨gm, 4, none⟩) rm.lt).trans (rm.cell 4)⟩))
    have HB := Lib.hid (fun (A5 : Option Addr) (c5 : Nat) (w : World) (h : IsMs w A5 (ms.length + 1) (ms ++ [(⟨[110, 101, 119], 4, 32, 0, []⟩ : Md)]) ∧ ms.length + 1 ≤ c5) => build_no (E := 6) (by simp) (bld_app hg HE.out (by decide)) (by decide) A5 c5 w h.1 h.2 (fun x hx => by
      rcases List.mem_append.1 hx with hx | hx
      · have := hg.names x hx; omega
      · rw [List.mem_singleton.1 hx]; decide) (fun x hx => by
      rcases List.mem_append.1 hx with hx | hx
      · have := hg.dat x hx; omega
      · rw [List.mem_singleton.1 hx]; decide))
    have HKW := HK.out w3.drew (Below.refl _ _).drew
    have hmll := hg.len
    go_region_held3 (fun w' => w'.cell? ⟨gm, 0, none⟩ = some (.string (sv (⟨[110, 101, 119], 4, 32, 0, []⟩ : Md).name)) ∧ w'.cell? ⟨gm, 1, none⟩ = some (.int .i64 (⟨[110, 101, 119], 4, 32, 0, []⟩ : Md).kind) ∧ w'.cell? ⟨gm, 2, none⟩ = some (.int .i64 (⟨[110, 101, 119], 4, 32, 0, []⟩ : Md).width) ∧ w'.cell? ⟨gm, 3, none⟩ = some (.int .i64 (⟨[110, 101, 119], 4, 32, 0, []⟩ : Md).entry) ∧ w'.cell? ⟨gm, 4, none⟩ = some (.slice none (⟨[110, 101, 119], 4, 32, 0, []⟩ : Md).data.length 0)) (first | exact HK.out _ (Below.refl _ _) | exact HK.out _ (Below.refl _ _).drew | exact HK.out _ ((Below.refl _ _).alloc (Nat.le_refl _) _) | exact HK.out _ ((Below.refl _ _).alloc (Nat.le_refl _) _).drew | exact HK.out _ hb5 | exact HK.out _ hb5.drew | exact HK.out _ (hb5.alloc hb5.size _) | exact HK.out _ (hb5.alloc hb5.size _).drew | exact HK.out _ hb7 | exact HK.out _ hb8) (first | (go_at_call 16; (with_reducible refine Calls.mono (HM.out _ (by first | exact Below.refl _ _ | exact (Below.refl _ _).drew | exact (Below.refl _ _).alloc (Nat.le_refl _) _ | exact ((Below.refl _ _).alloc (Nat.le_refl _) _).drew)) ?_); rintro en w4 ⟨A4, c4, qs4, rfl, ho4, hb4⟩; have hb5 : Below w3.heap.size w3 w4 := (by first | exact hb4 | exact ((Below.refl _ w3).drew).trans hb4 | exact (((Below.refl _ w3).alloc (Nat.le_refl _) _)).trans (hb4.mono (((Below.refl _ w3).alloc (Nat.le_refl _) _)).size) | exact (((Below.refl _ w3).alloc (Nat.le_refl _) _).drew).trans (hb4.mono (((Below.refl _ w3).alloc (Nat.le_refl _) _)).size)); have hb9 := (Below.refl w4.heap.size w4).alloc (Nat.le_refl _) (.cells (mdV (⟨[110, 101, 119], 4, 32, 0, []⟩ : Md) none 0).toArray 35); have ho9 := ho4.below hb9; try (have r49 : Row w4 w3.heap.size 35 (mdV (⟨[110, 101, 119], 4, 32, 0, []⟩ : Md) none 0).toArray := (by first | exact (Row.born w3 35 (mdV (⟨[110, 101, 119], 4, 32, 0, []⟩ : Md) none 0).toArray).below hb4 (Row.born w3 35 (mdV (⟨[110, 101, 119], 4, 32, 0, []⟩ : Md) none 0).toArray).lt | exact ((Row.born w3 35 (mdV (⟨[110, 101, 119], 4, 32, 0, []⟩ : Md) none 0).toArray).below (Below.refl _ _).drew (Row.born w3 35 (mdV (⟨[110, 101, 119], 4, 32, 0, []⟩ : Md) none 0).toArray).lt).below hb4 (Row.born w3 35 (mdV (⟨[110, 101, 119], 4, 32, 0, []⟩ : Md) none 0).toArray).lt))) | (go_at_call 12; (with_reducible refine Calls.mono (HB.out _ _ _ hM6) ?_); rintro en w6 ⟨rfl, hb6⟩; have hb8 := hb7.trans (hb6.mono hb7.size)) | (refine step_append_v (P := Tryd.prog) (news := (mdV (⟨[110, 101, 119], 4, 32, 0, []⟩ : Md) none 0)) Tryd.underlying25 info_md rfl (by decide) ho4.ro (by first | exact Row.born _ 35 _ | exact r49) rfl (mdV_ones _ _ _) (by omega) (by omega) hb4.size rfl rfl ?_; intro A5 c5 w5 h28 h38 hat; have k5 : Keeps [35] w3 w5 := (Keeps.below (hb5)).trans (Keeps.grown h38 ho4.ro.typed); have hM6 := isMs_app ho4 hdc (HD.out _ k5) h28 h38; have hb7 : Below w3.heap.size w3 w5 := (hb5.grown h38 hb5.size (fun k hk => Nat.le_trans (by first | exact Nat.le_refl _ | exact (((Below.refl _ w3).alloc (Nat.le_refl _) _)).size) (ho4.ro.ge k hk).1))) | (refine step_append_v (P := Tryd.prog) (news := (mdV (⟨[110, 101, 119], 4, 32, 0, []⟩ : Md) none 0)) Tryd.underlying25 info_md rfl (by decide) ho9.ro (by first | exact Row.born _ 35 _ | exact r49) rfl (mdV_ones _ _ _) (by omega) (by omega) (Nat.le_trans hb4.size hb9.size) rfl rfl ?_; intro A5 c5 w5 h28 h38 hat; have k5 : Keeps [35] w3 w5 := (Keeps.below (hb5.trans (hb9.mono hb5.size))).trans (Keeps.grown h38 ho9.ro.typed); have hM6 := isMs_app ho9 hdc (HD.out _ k5) h28 h38; have hb7 : Below w3.heap.size w3 w5 := ((hb5.trans (hb9.mono hb5.size)).grown h38 (Nat.le_trans hb5.size hb9.size) (fun k hk => Nat.le_trans (by first | exact Nat.le_refl _ | exact (((Below.refl _ w3).alloc (Nat.le_refl _) _)).size) (ho4.ro.ge k hk).1))))
    all_goals have hB9 := hB.trans (hb8.mono hB.size)
    all_goals go_wp2_with (go_at_call 10; (with_reducible refine Calls.mono (AW.out _ (by first | exact hB9 | exact hB9.drew)) ?_); rintro en w9 ⟨rfl, hBF⟩)
    all_goals go_ret
    all_goals exact ⟨rfl, hBF⟩
  · go_upto_region 22 with (fail)
    have hal : Below w1.heap.size w1 (w1.alloc (.cells #[.string ⟨#[110, 101, 119]⟩, .int .i64 2, .int .i64 64, .int .i64 0, .slice none 0 0] 35)) := (Below.refl w1.heap.size w1).alloc (Nat.le_refl _) _
    have rm : Row (w1.alloc (.cells #[.string ⟨#[110, 101, 119]⟩, .int .i64 2, .int .i64 64, .int .i64 0, .slice none 0 0] 35)) w1.heap.size 35 (mdV (⟨[110, 101, 119], 2, 64, 0, []⟩ : Md) none 0).toArray := Row.born w1 35 _
    have HD := Lib.hid (fun (w' : World) (_ : Keeps [35] (w1.alloc (.cells #[.string ⟨#[110, 101, 119]⟩, .int .i64 2, .int .i64 64, .int .i64 0, .slice none 0 0] 35)) w') => IsB.nil w' none)
    have HE := Lib.hid (show chkE (⟨[110, 101, 119], 2, 64, 0, []⟩ : Md) ms = 6 by unfold chkE; rfl)
    have ho := ho.below hal
    have hB := hB.trans (hal.mono hB.size)
    have hdc : (⟨[110, 101, 119], 2, 64, 0, []⟩ : Md).data.length ≤ 0 := by decide
    clear hal hB1 PL
    generalize (w1.alloc (.cells #[.string ⟨#[110, 101, 119]⟩, .int .i64 2, .int .i64 64, .int .i64 0, .slice none 0 0] 35)) = w3 at *
    generalize w1.heap.size = gm at *
    have hM3 := ho.isMs
    have hcp := ho.cap
    have HM := Lib.hid (fun (w : World) (hb : Below w3.heap.size w3 w) => copied16 ms A c w (hM3.below hb) hcp (by have := hg.len; omega) (fun x hx => by have := hg.dat x hx; omega))
    have HK := Lib.hid (fun (w : World) (hb : Below w3.heap.size w3 w) => (show w.cell? ⟨gm, 0, none⟩ = some (.string (sv (⟨[110, 101, 119], 2, 64, 0, []⟩ : Md).name)) ∧ w.cell? ⟨gm, 1, none⟩ = some (.int .i64 (⟨[110, 101, 119], 2, 64, 0, []⟩ : Md).kind) ∧ w.cell? ⟨gm, 2, none⟩ = some (.int .i64 (⟨[110, 101, 119], 2, 64, 0, []⟩ : Md).width) ∧ w.cell? ⟨gm, 3, none⟩ = some (.int .i64 (⟨[110, 101, 119], 2, 64, 0, []⟩ : Md).entry) ∧ w.cell? ⟨gm, 4, none⟩ = some (.slice none (⟨[110, 101, 119], 2, 64, 0, []⟩ : Md).data.length 0) from ⟨(hb.cell (p := ⟨gm, 0, none⟩) rm.lt).trans (rm.cell 0), (hb.cell (p := ⟨gm, 1, none⟩) rm.lt).trans (rm.cell 1), (hb.cell (p := ⟨gm, 2, none⟩) rm.lt).trans (rm.cell 2), (hb.cell (p := ⟨gm, 3, none⟩) rm.lt).trans (rm.cell 3), (hb.cell (p := ⟨gm, 4, none⟩) rm.lt).trans (rm.cell 4)⟩))
    have HB := Lib.hid (fun (A5 : Option Addr) (c5 : Nat) (w : World) (h : IsMs w A5 (ms.length + 1) (ms ++ [(⟨[110, 101, 119], 2, 64, 0, []⟩ : Md)]) ∧ ms.length + 1 ≤ c5) => build_no (E := 6) (by simp) (bld_app hg HE.out (by decide)) (by decide) A5 c5 w h.1 h.2 (fun x hx => by
      rcases List.mem_append.1 hx with hx | hx
      · have := hg.names x hx; omega
      · rw [List.mem_singleton.1 hx]; decide) (fun x hx => by
      rcases List.mem_append.1 hx with hx | hx
      · have := hg.dat x hx; omega
      · rw [List.mem_singleton.1 hx]; decide))
    have HKW := HK.out w3.drew (Below.refl _ _).drew
    have hmll := hg.len
    go_region_held3 (fun w' => w'.cell? ⟨gm, 0, none⟩ = some (.string (sv (⟨[110, 101, 119], 2, 64, 0, []⟩ : Md).name)) ∧ w'.cell? ⟨gm, 1, none⟩ = some (.int .i64 (⟨[110, 101, 119], 2, 64, 0, []⟩ : Md).kind) ∧ w'.cell? ⟨gm, 2, none⟩ = some (.int .i64 (⟨[110, 101, 119], 2, 64, 0, []⟩ : Md).width) ∧ w'.cell? ⟨gm, 3, none⟩ = some (.int .i64 (⟨[110, 101, 119], 2, 64, 0, []⟩ : Md).entry) ∧ w'.cell? ⟨gm, 4, none⟩ = some (.slice none (⟨[110, 101, 119], 2, 64, 0, []⟩ : Md).data.length 0)) (first | exact HK.out _ (Below.refl _ _) | exact HK.out _ (Below.refl _ _).drew | exact HK.out _ ((Below.refl _ _).alloc (Nat.le_refl _) _) | exact HK.out _ ((Below.refl _ _).alloc (Nat.le_refl _) _).drew | exact HK.out _ hb5 | exact HK.out _ hb5.drew | exact HK.out _ (hb5.alloc hb5.size _) | exact HK.out _ (hb5.alloc hb5.size _).drew | exact HK.out _ hb7 | exact HK.out _ hb8) (first | (go_at_call 16; (with_reducible refine Calls.mono (HM.out _ (by first | exact Below.refl _ _ | exact (Below.refl _ _).drew | exact (Below.refl _ _).alloc (Nat.le_refl _) _ | exact ((Below.refl _ _).alloc (Nat.le_refl _) _).drew)) ?_); rintro en w4 ⟨A4, c4, qs4, rfl, ho4, hb4⟩; have hb5 : Below w3.heap.size w3 w4 := (by first | exact hb4 | exact ((Below.refl _ w3).drew).trans hb4 | exact (((Below.refl _ w3).alloc (Nat.le_refl _) _)).trans (hb4.mono (((Below.refl _ w3).alloc (Nat.le_refl _) _)).size) | exact (((Below.refl _ w3).alloc (Nat.le_refl _) _).drew).trans (hb4.mono (((Below.refl _ w3).alloc (Nat.le_refl _) _)).size)); have hb9 := (Below.refl w4.heap.size w4).alloc (Nat.le_refl _) (.cells (mdV (⟨[110, 101, 119], 2, 64, 0, []⟩ : Md) none 0).toArray 35); have ho9 := ho4.below hb9; try (have r49 : Row w4 w3.heap.size 35 (mdV (⟨[110, 101, 119], 2, 64, 0, []⟩ : Md) none 0).toArray := (by first | exact (Row.born w3 35 (mdV (⟨[110, 101, 119], 2, 64, 0, []⟩ : Md) none 0).toArray).below hb4 (Row.born w3 35 (mdV (⟨[110, 101, 119], 2, 64, 0, []⟩ : Md) none 0).toArray).lt | exact ((Row.born w3 35 (mdV (⟨[110, 101, 119], 2, 64, 0, []⟩ : Md) none 0).toArray).below (Below.refl _ _).drew (Row.born w3 35 (mdV (⟨[110, 101, 119], 2, 64, 0, []⟩ : Md) none 0).toArray).lt).below hb4 (Row.born w3 35 (mdV (⟨[110, 101, 119], 2, 64, 0, []⟩ : Md) none 0).toArray).lt))) | (go_at_call 12; (with_reducible refine Calls.mono (HB.out _ _ _ hM6) ?_); rintro en w6 ⟨rfl, hb6⟩; have hb8 := hb7.trans (hb6.mono hb7.size)) | (refine step_append_v (P := Tryd.prog) (news := (mdV (⟨[110, 101, 119], 2, 64, 0, []⟩ : Md) none 0)) Tryd.underlying25 info_md rfl (by decide) ho4.ro (by first | exact Row.born _ 35 _ | exact r49) rfl (mdV_ones _ _ _) (by omega) (by omega) hb4.size rfl rfl ?_; intro A5 c5 w5 h28 h38 hat; have k5 : Keeps [35] w3 w5 := (Keeps.below (hb5)).trans (Keeps.grown h38 ho4.ro.typed); have hM6 := isMs_app ho4 hdc (HD.out _ k5) h28 h38; have hb7 : Below w3.heap.size w3 w5 := (hb5.grown h38 hb5.size (fun k hk => Nat.le_trans (by first | exact Nat.le_refl _ | exact (((Below.refl _ w3).alloc (Nat.le_refl _) _)).size) (ho4.ro.ge k hk).1))) | (refine step_append_v (P := Tryd.prog) (news := (mdV (⟨[110, 101, 119], 2, 64, 0, []⟩ : Md) none 0)) Tryd.underlying25 info_md rfl (by decide) ho9.ro (by first | exact Row.born _ 35 _ | exact r49) rfl (mdV_ones _ _ _) (by omega) (by omega) (Nat.le_trans hb4.size hb9.size) rfl rfl ?_; intro A5 c5 w5 h28 h38 hat; have k5 : Keeps [35] w3 w5 := (Keeps.below (hb5.trans (hb9.mono hb5.size))).trans (Keeps.grown h38 ho9.ro.typed); have hM6 := isMs_app ho9 hdc (HD.out _ k5) h28 h38; have hb7 : Below w3.heap.size w3 w5 := ((hb5.trans (hb9.mono hb5.size)).grown h38 (Nat.le_trans hb5.size hb9.size) (fun k hk => Nat.le_trans (by first | exact Nat.le_refl _ | exact (((Below.refl _ w3).alloc (Nat.le_refl _) _)).size) (ho4.ro.ge k hk).1))))
    all_goals have hB9 := hB.trans (hb8.mono hB.size)
    all_goals go_wp2_with (go_at_call 10; (with_reducible refine Calls.mono (AW.out _ (by first | exact hB9 | exact hB9.drew)) ?_); rintro en w9 ⟨rfl, hBF⟩)
    all_goals go_ret
    all_goals exact ⟨rfl, hBF⟩
  · have hsz : (w1.alloc (.cells #[.string ⟨#[]⟩, .int .i64 0, .int .i64 0, .int .i64 0, .slice none 0 0] 35)).heap.size = w1.heap.size + 1 := Array.size_push ..
    have rz1 : Row (w1.alloc (.cells #[.string ⟨#[]⟩, .int .i64 0, .int .i64 0, .int .i64 0, .slice none 0 0] 35)) w1.heap.size 35 ZM3 := Row.born w1 35 ZM3
    have hal : Below w1.heap.size w1 (w1.alloc (.cells #[.string ⟨#[]⟩, .int .i64 0, .int .i64 0, .int .i64 0, .slice none 0 0] 35)) := (Below.refl w1.heap.size w1).alloc (Nat.le_refl _) _
    have hne := ho.lt rfl
    go_upto_region 22 with (at_make; refine wp_make 12 Tryd.underlying23 info_u8 rfl (by omega) (by omega) rfl rfl (by omega) (by omega) ?_; intro w3 ro hb3; rw [hsz] at ro; have rz := rz1.below hb3 rz1.lt; obtain ⟨⟨q0, q1, q2, q3, q4⟩, f0, f1, f2, f3, f4⟩ := zm_cells rz)
    clear q0 q1 q2 q3 q4 f0 f1 f2 f3 f4
    have rm : Row (((((w3.setCell ⟨w1.heap.size, 0, none⟩ (.string ⟨#[110, 101, 119]⟩)).setCell ⟨w1.heap.size, 1, none⟩ (.int .i64 1)).setCell ⟨w1.heap.size, 2, none⟩ (.int .i64 32)).setCell ⟨w1.heap.size, 3, none⟩ (.int .i64 0)).setCell ⟨w1.heap.size, 4, none⟩ (.slice (some ⟨w1.heap.size + 1, 0, none⟩) 12 12)) w1.heap.size 35 (mdV (⟨[110, 101, 119], 1, 32, 0, List.replicate 12 0⟩ : Md) (some ⟨w1.heap.size + 1, 0, none⟩) 12).toArray := row_set5 rz (⟨[110, 101, 119], 1, 32, 0, List.replicate 12 0⟩ : Md) _ _
    have u : Upd w3 (((((w3.setCell ⟨w1.heap.size, 0, none⟩ (.string ⟨#[110, 101, 119]⟩)).setCell ⟨w1.heap.size, 1, none⟩ (.int .i64 1)).setCell ⟨w1.heap.size, 2, none⟩ (.int .i64 32)).setCell ⟨w1.heap.size, 3, none⟩ (.int .i64 0)).setCell ⟨w1.heap.size, 4, none⟩ (.slice (some ⟨w1.heap.size + 1, 0, none⟩) 12 12)) w1.heap.size := Upd.setCells w1.heap.size (mdV (⟨[110, 101, 119], 1, 32, 0, List.replicate 12 0⟩ : Md) (some ⟨w1.heap.size + 1, 0, none⟩) 12) w3 0
    have hb : Below w1.heap.size w1 (((((w3.setCell ⟨w1.heap.size, 0, none⟩ (.string ⟨#[110, 101, 119]⟩)).setCell ⟨w1.heap.size, 1, none⟩ (.int .i64 1)).setCell ⟨w1.heap.size, 2, none⟩ (.int .i64 32)).setCell ⟨w1.heap.size, 3, none⟩ (.int .i64 0)).setCell ⟨w1.heap.size, 4, none⟩ (.slice (some ⟨w1.heap.size + 1, 0, none⟩) 12 12)) := Upd.below (hal.trans (hb3.mono hal.size)) u (Nat.le_refl _)
    have ro := ro.upd u (by omega)
    have ho := ((ho.below hal).below hb3).upd u rz hne
    have HD := Lib.hid (fun (w' : World) (k : Keeps [35] (((((w3.setCell ⟨w1.heap.size, 0, none⟩ (.string ⟨#[110, 101, 119]⟩)).setCell ⟨w1.heap.size, 1, none⟩ (.int .i64 1)).setCell ⟨w1.heap.size, 2, none⟩ (.int .i64 32)).setCell ⟨w1.heap.size, 3, none⟩ (.int .i64 0)).setCell ⟨w1.heap.size, 4, none⟩ (.slice (some ⟨w1.heap.size + 1, 0, none⟩) 12 12)) w') => zer_isB (k.row ro (by decide)))
    have HE := Lib.hid (show chkE (⟨[110, 101, 119], 1, 32, 0, List.replicate 12 0⟩ : Md) ms = 59 by unfold chkE; rfl)
    have hB := hB.trans (hb.mono hB.size)
    have hdc : (⟨[110, 101, 119], 1, 32, 0, List.replicate 12 0⟩ : Md).data.length ≤ 12 := by decide
    clear hal hB1 PL hsz rz1 rz u hb3 ro hne hb
    generalize (((((w3.setCell ⟨w1.heap.size, 0, none⟩ (.string ⟨#[110, 101, 119]⟩)).setCell ⟨w1.heap.size, 1, none⟩ (.int .i64 1)).setCell ⟨w1.heap.size, 2, none⟩ (.int .i64 32)).setCell ⟨w1.heap.size, 3, none⟩ (.int .i64 0)).setCell ⟨w1.heap.size, 4, none⟩ (.slice (some ⟨w1.heap.size + 1, 0, none⟩) 12 12)) = w3 at *
    obtain ⟨gD, hgD⟩ : ∃ gD, w1.heap.size + 1 = gD := ⟨_, rfl⟩
    simp only [hgD] at *
    generalize w1.heap.size = gm at *
    have hM3 := ho.isMs
    have hcp := ho.cap
    have HM := Lib.hid (fun (w : World) (hb : Below w3.heap.size w3 w) => copied16 ms A c w (hM3.below hb) hcp (by have := hg.len; omega) (fun x hx => by have := hg.dat x hx; omega))
    have HK := Lib.hid (fun (w : World) (hb : Below w3.heap.size w3 w) => (show w.cell? ⟨gm, 0, none⟩ = some (.string (sv (⟨[110, 101, 119], 1, 32, 0, List.replicate 12 0⟩ : Md).name)) ∧ w.cell? ⟨gm, 1, none⟩ = some (.int .i64 (⟨[110, 101, 119], 1, 32, 0, List.replicate 12 0⟩ : Md).kind) ∧ w.cell? ⟨gm, 2, none⟩ = some (.int .i64 (⟨[110, 101, 119], 1, 32, 0, List.replicate 12 0⟩ : Md).width) ∧ w.cell? ⟨gm, 3, none⟩ = some (.int .i64 (⟨[110, 101, 119], 1, 32, 0, List.replicate 12 0⟩ : Md).entry) ∧ w.cell? ⟨gm, 4, none⟩ = some (.slice (some ⟨gD, 0, none⟩) (⟨[110, 101, 119], 1, 32, 0, List.replicate 12 0⟩ : Md).data.length 12) from ⟨(hb.cell (p := ⟨gm, 0, none⟩) rm.lt).trans (rm.cell 0), (hb.cell (p := ⟨gm, 1, none⟩) rm.lt).trans (rm.cell 1), (hb.cell (p := ⟨gm, 2, none⟩) rm.lt).trans (rm.cell 2), (hb.cell (p := ⟨gm, 3, none⟩) rm.lt).trans (rm.cell 3), (hb.cell (p := ⟨gm, 4, none⟩) rm.lt).trans (rm.cell 4)⟩))
    have HB := Lib.hid (fun (A5 : Option Addr) (c5 : Nat) (w : World) (h : IsMs w A5 (ms.length + 1) (ms ++ [(⟨[110, 101, 119], 1, 32, 0, List.replicate 12 0⟩ : Md)]) ∧ ms.length + 1 ≤ c5) => build_no (E := 59) (by simp) (bld_app hg HE.out (by decide)) (by decide) A5 c5 w h.1 h.2 (fun x hx => by
      rcases List.mem_append.1 hx with hx | hx
      · have := hg.names x hx; omega
      · rw [List.mem_singleton.1 hx]; decide) (fun x hx => by
      rcases List.mem_append.1 hx with hx | hx
      · have := hg.dat x hx; omega
      · rw [List.mem_singleton.1 hx]; decide))
    have HKW := HK.out w3.drew (Below.refl _ _).drew
    have hmll := hg.len
    go_region_held3 (fun w' => w'.cell? ⟨gm, 0, none⟩ = some (.string (sv (⟨[110, 101, 119], 1, 32, 0, List.replicate 12 0⟩ : Md).name)) ∧ w'.cell? ⟨gm, 1, none⟩ = some (.int .i64 (⟨[110, 101, 119], 1, 32, 0, List.replicate 12 0⟩ : Md).kind) ∧ w'.cell? ⟨gm, 2, none⟩ = some (.int .i64 (⟨[110, 101, 119], 1, 32, 0, List.replicate 12 0⟩ : Md).width) ∧ w'.cell? ⟨gm, 3, none⟩ = some (.int .i64 (⟨[110, 101, 119], 1, 32, 0, List.replicate 12 0⟩ : Md).entry) ∧ w'.cell? ⟨gm, 4, none⟩ = some (.slice (some ⟨gD, 0, none⟩) (⟨[110, 101, 119], 1, 32, 0, List.replicate 12 0⟩ : Md).data.length 12)) (first | exact HK.out _ (Below.refl _ _) | exact HK.out _ (Below.refl _ _).drew | exact HK.out _ ((Below.refl _ _).alloc (Nat.le_refl _) _) | exact HK.out _ ((Below.refl _ _).alloc (Nat.le_refl _) _).drew | exact HK.out _ hb5 | exact HK.out _ hb5.drew | exact HK.out _ (hb5.alloc hb5.size _) | exact HK.out _ (hb5.alloc hb5.size _).drew | exact HK.out _ hb7 | exact HK.out _ hb8) (first | (go_at_call 16; (with_reducible refine Calls.mono (HM.out _ (by first | exact Below.refl _ _ | exact (Below.refl _ _).drew | exact (Below.refl _ _).alloc (Nat.le_refl _) _ | exact ((Below.refl _ _).alloc (Nat.le_refl _) _).drew)) ?_); rintro en w4 ⟨A4, c4, qs4, rfl, ho4, hb4⟩; have hb5 : Below w3.heap.size w3 w4 := (by first | exact hb4 | exact ((Below.refl _ w3).drew).trans hb4 | exact (((Below.refl _ w3).alloc (Nat.le_refl _) _)).trans (hb4.mono (((Below.refl _ w3).alloc (Nat.le_refl _) _)).size) | exact (((Below.refl _ w3).alloc (Nat.le_refl _) _).drew).trans (hb4.mono (((Below.refl _ w3).alloc (Nat.le_refl _) _)).size)); have hb9 := (Below.refl w4.heap.size w4).alloc (Nat.le_refl _) (.cells (mdV (⟨[110, 101, 119], 1, 32, 0, List.replicate 12 0⟩ : Md) (some ⟨gD, 0, none⟩) 12).toArray 35); have ho9 := ho4.below hb9; try (have r49 : Row w4 w3.heap.size 35 (mdV (⟨[110, 101, 119], 1, 32, 0, List.replicate 12 0⟩ : Md) (some ⟨gD, 0, none⟩) 12).toArray := (by first | exact (Row.born w3 35 (mdV (⟨[110, 101, 119], 1, 32, 0, List.replicate 12 0⟩ : Md) (some ⟨gD, 0, none⟩) 12).toArray).below hb4 (Row.born w3 35 (mdV (⟨[110, 101, 119], 1, 32, 0, List.replicate 12 0⟩ : Md) (some ⟨gD, 0, none⟩) 12).toArray).lt | exact ((Row.born w3 35 (mdV (⟨[110, 101, 119], 1, 32, 0, List.replicate 12 0⟩ : Md) (some ⟨gD, 0, none⟩) 12).toArray).below (Below.refl _ _).drew (Row.born w3 35 (mdV (⟨[110, 101, 119], 1, 32, 0, List.replicate 12 0⟩ : Md) (some ⟨gD, 0, none⟩) 12).toArray).lt).below hb4 (Row.born w3 35 (mdV (⟨[110, 101, 119], 1, 32, 0, List.replicate 12 0⟩ : Md) (some ⟨gD, 0, none⟩) 12).toArray).lt))) | (go_at_call 12; (with_reducible refine Calls.mono (HB.out _ _ _ hM6) ?_); rintro en w6 ⟨rfl, hb6⟩; have hb8 := hb7.trans (hb6.mono hb7.size)) | (refine step_append_v (P := Tryd.prog) (news := (mdV (⟨[110, 101, 119], 1, 32, 0, List.replicate 12 0⟩ : Md) (some ⟨gD, 0, none⟩) 12)) Tryd.underlying25 info_md rfl (by decide) ho4.ro (by first | exact Row.born _ 35 _ | exact r49) rfl (mdV_ones _ _ _) (by omega) (by omega) hb4.size rfl rfl ?_; intro A5 c5 w5 h28 h38 hat; have k5 : Keeps [35] w3 w5 := (Keeps.below (hb5)).trans (Keeps.grown h38 ho4.ro.typed); have hM6 := isMs_app ho4 hdc (HD.out _ k5) h28 h38; have hb7 : Below w3.heap.size w3 w5 := (hb5.grown h38 hb5.size (fun k hk => Nat.le_trans (by first | exact Nat.le_refl _ | exact (((Below.refl _ w3).alloc (Nat.le_refl _) _)).size) (ho4.ro.ge k hk).1))) | (refine step_append_v (P := Tryd.prog) (news := (mdV (⟨[110, 101, 119], 1, 32, 0, List.replicate 12 0⟩ : Md) (some ⟨gD, 0, none⟩) 12)) Tryd.underlying25 info_md rfl (by decide) ho9.ro (by first | exact Row.born _ 35 _ | exact r49) rfl (mdV_ones _ _ _) (by omega) (by omega) (Nat.le_trans hb4.size hb9.size) rfl rfl ?_; intro A5 c5 w5 h28 h38 hat; have k5 : Keeps [35] w3 w5 := (Keeps.below (hb5.trans (hb9.mono hb5.size))).trans (Keeps.grown h38 ho9.ro.typed); have hM6 := isMs_app ho9 hdc (HD.out _ k5) h28 h38; have hb7 : Below w3.heap.size w3 w5 := ((hb5.trans (hb9.mono hb5.size)).grown h38 (Nat.le_trans hb5.size hb9.size) (fun k hk => Nat.le_trans (by first | exact Nat.le_refl _ | exact (((Below.refl _ w3).alloc (Nat.le_refl _) _)).size) (ho4.ro.ge k hk).1))))
    all_goals have hB9 := hB.trans (hb8.mono hB.size)
    all_goals go_wp2_with (go_at_call 10; (with_reducible refine Calls.mono (AW.out _ (by first | exact hB9 | exact hB9.drew)) ?_); rintro en w9 ⟨rfl, hBF⟩)
    all_goals go_ret
    all_goals exact ⟨rfl, hBF⟩
  · have hsz : (w1.alloc (.cells #[.string ⟨#[]⟩, .int .i64 0, .int .i64 0, .int .i64 0, .slice none 0 0] 35)).heap.size = w1.heap.size + 1 := Array.size_push ..
    have rz1 : Row (w1.alloc (.cells #[.string ⟨#[]⟩, .int .i64 0, .int .i64 0, .int .i64 0, .slice none 0 0] 35)) w1.heap.size 35 ZM3 := Row.born w1 35 ZM3
    have hal : Below w1.heap.size w1 (w1.alloc (.cells #[.string ⟨#[]⟩, .int .i64 0, .int .i64 0, .int .i64 0, .slice none 0 0] 35)) := (Below.refl w1.heap.size w1).alloc (Nat.le_refl _) _
    have hne := ho.lt rfl
    go_upto_region 22 with (at_make; refine wp_make 16 Tryd.underlying23 info_u8 rfl (by omega) (by omega) rfl rfl (by omega) (by omega) ?_; intro w3 ro hb3; rw [hsz] at ro; have rz := rz1.below hb3 rz1.lt; obtain ⟨⟨q0, q1, q2, q3, q4⟩, f0, f1, f2, f3, f4⟩ := zm_cells rz)
    clear q0 q1 q2 q3 q4 f0 f1 f2 f3 f4
    have rm : Row (((((w3.setCell ⟨w1.heap.size, 0, none⟩ (.string ⟨#[110, 101, 119]⟩)).setCell ⟨w1.heap.size, 1, none⟩ (.int .i64 1)).setCell ⟨w1.heap.size, 2, none⟩ (.int .i64 39)).setCell ⟨w1.heap.size, 3, none⟩ (.int .i64 2)).setCell ⟨w1.heap.size, 4, none⟩ (.slice (some ⟨w1.heap.size + 1, 0, none⟩) 16 16)) w1.heap.size 35 (mdV (⟨[110, 101, 119], 1, 39, 2, List.replicate 16 0⟩ : Md) (some ⟨w1.heap.size + 1, 0, none⟩) 16).toArray := row_set5 rz (⟨[110, 101, 119], 1, 39, 2, List.replicate 16 0⟩ : Md) _ _
    have u : Upd w3 (((((w3.setCell ⟨w1.heap.size, 0, none⟩ (.string ⟨#[110, 101, 119]⟩)).setCell ⟨w1.heap.size, 1, none⟩ (.int .i64 1)).setCell ⟨w1.heap.size, 2, none⟩ (.int .i64 39)).setCell ⟨w1.heap.size, 3, none⟩ (.int .i64 2)).setCell ⟨w1.heap.size, 4, none⟩ (.slice (some ⟨w1.heap.size + 1, 0, none⟩) 16 16)) w1.heap.size := Upd.setCells w1.heap.size (mdV (⟨[110, 101, 119], 1, 39, 2, List.replicate 16 0⟩ : Md) (some ⟨w1.heap.size + 1, 0, none⟩) 16) w3 0
    have hb : Below w1.heap.size w1 (((((w3.setCell ⟨w1.heap.size, 0, none⟩ (.string ⟨#[110, 101, 119]⟩)).setCell ⟨w1.heap.size, 1, none⟩ (.int .i64 1)).setCell ⟨w1.heap.size, 2, none⟩ (.int .i64 39)).setCell ⟨w1.heap.size, 3, none⟩ (.int .i64 2)).setCell ⟨w1.heap.size, 4, none⟩ (.slice (some ⟨w1.heap.size + 1, 0, none⟩) 16 16)) := Upd.below (hal.trans (hb3.mono hal.size)) u (Nat.le_refl _)
    have ro := ro.upd u (by omega)
    have ho := ((ho.below hal).below hb3).upd u rz hne
    have HD := Lib.hid (fun (w' : World) (k : Keeps [35] (((((w3.setCell ⟨w1.heap.size, 0, none⟩ (.string ⟨#[110, 101, 119]⟩)).setCell ⟨w1.heap.size, 1, none⟩ (.int .i64 1)).setCell ⟨w1.heap.size, 2, none⟩ (.int .i64 39)).setCell ⟨w1.heap.size, 3, none⟩ (.int .i64 2)).setCell ⟨w1.heap.size, 4, none⟩ (.slice (some ⟨w1.heap.size + 1, 0, none⟩) 16 16)) w') => zer_isB (k.row ro (by decide)))
    have HE := Lib.hid (show chkE (⟨[110, 101, 119], 1, 39, 2, List.replicate 16 0⟩ : Md) ms = 6 by unfold chkE; rfl)
    have hB := hB.trans (hb.mono hB.size)
    have hdc : (⟨[110, 101, 119], 1, 39, 2, List.replicate 16 0⟩ : Md).data.length ≤ 16 := by decide
    clear hal hB1 PL hsz rz1 rz u hb3 ro hne hb
    generalize (((((w3.setCell ⟨w1.heap.size, 0, none⟩ (.string ⟨#[110, 101, 119]⟩)).setCell ⟨w1.heap.size, 1, none⟩ (.int .i64 1)).setCell ⟨w1.heap.size, 2, none⟩ (.int .i64 39)).setCell ⟨w1.heap.size, 3, none⟩ (.int .i64 2)).setCell ⟨w1.heap.size, 4, none⟩ (.slice (some ⟨w1.heap.size + 1, 0, none⟩) 16 16)) = w3 at *
    obtain ⟨gD, hgD⟩ : ∃ gD, w1.heap.size + 1 = gD := ⟨_, rfl⟩
    simp only [hgD] at *
    generalize w1.heap.size = gm at *
    have hM3 := ho.isMs
    have hcp := ho.cap
    have HM := Lib.hid (fun (w : World) (hb : Below w3.heap.size w3 w) => copied16 ms A c w (hM3.below hb) hcp (by have := hg.len; omega) (fun x hx => by have := hg.dat x hx; omega))
    have HK := Lib.hid (fun (w : World) (hb : Below w3.heap.size w3 w) => (show w.cell? ⟨gm, 0, none⟩ = some (.string (sv (⟨[110, 101, 119], 1, 39, 2, List.replicate 16 0⟩ : Md).name)) ∧ w.cell? ⟨gm, 1, none⟩ = some (.int .i64 (⟨[110, 101, 119], 1, 39, 2, List.replicate 16 0⟩ : Md).kind) ∧ w.cell? ⟨gm, 2, none⟩ = some (.int .i64 (⟨[110, 101, 119], 1, 39, 2, List.replicate 16 0⟩ : Md).width) ∧ w.cell? ⟨gm, 3, none⟩ = some (.int .i64 (⟨[110, 101, 119], 1, 39, 2, List.replicate 16 0⟩ : Md).entry) ∧ w.cell? ⟨gm, 4, none⟩ = some (.slice (some ⟨gD, 0, none⟩) (⟨[110, 101, 119], 1, 39, 2, List.replicate 16 0⟩ : Md).data.length 16) from ⟨(hb.cell (p := ⟨gm, 0, none⟩) rm.lt).trans (rm.cell 0), (hb.cell (p := ⟨gm, 1, none⟩) rm.lt).trans (rm.cell 1), (hb.cell (p := ⟨gm, 2, none⟩) rm.lt).trans (rm.cell 2), (hb.cell (p := ⟨gm, 3, none⟩) rm.lt).trans (rm.cell 3), (hb.cell (p := ⟨gm, 4, none⟩) rm.lt).trans (rm.cell 4)⟩))
    have HB := Lib.hid (fun (A5 : Option Addr) (c5 : Nat) (w : World) (h : IsMs w A5 (ms.length + 1) (ms ++ [(⟨[110, 101, 119], 1, 39, 2, List.replicate 16 0⟩ : Md)]) ∧ ms.length + 1 ≤ c5) => build_no (E := 6) (by simp) (bld_app hg HE.out (by decide)) (by decide) A5 c5 w h.1 h.2 (fun x hx => by
      rcases List.mem_append.1 hx with hx | hx
      · have := hg.names x hx; omega
      · rw [List.mem_singleton.1 hx]; decide) (fun x hx => by
      rcases List.mem_append.1 hx with hx | hx
      · have := hg.dat x hx; omega
      · rw [List.mem_singleton.1 hx]; decide))
    have HKW := HK.out w3.drew (Below.refl _ _).drew
    have hmll := hg.len
    go_region_held3 (fun w' => w'.cell? ⟨gm, 0, none⟩ = some (.string (sv (⟨[110, 101, 119], 1, 39, 2, List.replicate 16 0⟩ : Md).name)) ∧ w'.cell? ⟨gm, 1, none⟩ = some (.int .i64 (⟨[110, 101, 119], 1, 39, 2, List.replicate 16 0⟩ : Md).kind) ∧ w'.cell? ⟨gm, 2, none⟩ = some (.int .i64 (⟨[110, 101, 119], 1, 39, 2, List.replicate 16 0⟩ : Md).width) ∧ w'.cell? ⟨gm, 3, none⟩ = some (.int .i64 (⟨[110, 101, 119], 1, 39, 2, List.replicate 16 0⟩ : Md).entry) ∧ w'.cell? ⟨gm, 4, none⟩ = some (.slice (some ⟨gD, 0, none⟩) (⟨[110, 101, 119], 1, 39, 2, List.replicate 16 0⟩ : Md).data.length 16)) (first | exact HK.out _ (Below.refl _ _) | exact HK.out _ (Below.refl _ _).drew | exact HK.out _ ((Below.refl _ _).alloc (Nat.le_refl _) _) | exact HK.out _ ((Below.refl _ _).alloc (Nat.le_refl _) _).drew | exact HK.out _ hb5 | exact HK.out _ hb5.drew | exact HK.out _ (hb5.alloc hb5.size _) | exact HK.out _ (hb5.alloc hb5.size _).drew | exact HK.out _ hb7 | exact HK.out _ hb8) (first | (go_at_call 16; (with_reducible refine Calls.mono (HM.out _ (by first | exact Below.refl _ _ | exact (Below.refl _ _).drew | exact (Below.refl _ _).alloc (Nat.le_refl _) _ | exact ((Below.refl _ _).alloc (Nat.le_refl _) _).drew)) ?_); rintro en w4 ⟨A4, c4, qs4, rfl, ho4, hb4⟩; have hb5 : Below w3.heap.size w3 w4 := (by first | exact hb4 | exact ((Below.refl _ w3).drew).trans hb4 | exact (((Below.refl _ w3).alloc (Nat.le_refl _) _)).trans (hb4.mono (((Below.refl _ w3).alloc (Nat.le_refl _) _)).size) | exact (((Below.refl _ w3).alloc (Nat.le_refl _) _).drew).trans (hb4.mono (((Below.refl _ w3).alloc (Nat.le_refl _) _)).size)); have hb9 := (Below.refl w4.heap.size w4).alloc (Nat.le_refl _) (.cells (mdV (⟨[110, 101, 119], 1, 39, 2, List.replicate 16 0⟩ : Md) (some ⟨gD, 0, none⟩) 16).toArray 35); have ho9 := ho4.below hb9; try (have r49 : Row w4 w3.heap.size 35 (mdV (⟨[110, 101, 119], 1, 39, 2, List.replicate 16 0⟩ : Md) (some ⟨gD, 0, none⟩) 16).toArray := (by first | exact (Row.born w3 35 (mdV (⟨[110, 101, 119], 1, 39, 2, List.replicate 16 0⟩ : Md) (some ⟨gD, 0, none⟩) 16).toArray).below hb4 (Row.born w3 35 (mdV (⟨[110, 101, 119], 1, 39, 2, List.replicate 16 0⟩ : Md) (some ⟨gD, 0, none⟩) 16).toArray).lt | exact ((Row.born w3 35 (mdV (⟨[110, 101, 119], 1, 39, 2, List.replicate 16 0⟩ : Md) (some ⟨gD, 0, none⟩) 16).toArray).below (Below.refl _ _).drew (Row.born w3 35 (mdV (⟨[110, 101, 119], 1, 39, 2, List.replicate 16 0⟩ : Md) (some ⟨gD, 0, none⟩) 16).toArray).lt).below hb4 (Row.born w3 35 (mdV (⟨[110, 101, 119], 1, 39, 2, List.replicate 16 0⟩ : Md) (some ⟨gD, 0, none⟩) 16).toArray).lt))) | (go_at_call 12; (with_reducible refine Calls.mono (HB.out _ _ _ hM6) ?_); rintro en w6 ⟨rfl, hb6⟩; have hb8 := hb7.trans (hb6.mono hb7.size)) | (refine step_append_v (P := Tryd.prog) (news := (mdV (⟨[110, 101, 119], 1, 39, 2, List.replicate 16 0⟩ : Md) (some ⟨gD, 0, none⟩) 16)) Tryd.underlying25 info_md rfl (by decide) ho4.ro (by first | exact Row.born _ 35 _ | exact r49) rfl (mdV_ones _ _ _) (by omega) (by omega) hb4.size rfl rfl ?_; intro A5 c5 w5 h28 h38 hat; have k5 : Keeps [35] w3 w5 := (Keeps.below (hb5)).trans (Keeps.grown h38 ho4.ro.typed); have hM6 := isMs_app ho4 hdc (HD.out _ k5) h28 h38; have hb7 : Below w3.heap.size w3 w5 := (hb5.grown h38 hb5.size (fun k hk => Nat.le_trans (by first | exact Nat.le_refl _ | exact (((Below.refl _ w3).alloc (Nat.le_refl _) _)).size) (ho4.ro.ge k hk).1))) | (refine step_append_v (P := Tryd.prog) (news := (mdV (⟨[110, 101, 119], 1, 39, 2, List.replicate 16 0⟩ : Md) (some ⟨gD, 0, none⟩) 16)) Tryd.underlying25 info_md rfl (by decide) ho9.ro (by first | exact Row.born _ 35 _ | exact r49) rfl (mdV_ones _ _ _) (by omega) (by omega) (Nat.le_trans hb4.size hb9.size) rfl rfl ?_; intro A5 c5 w5 h28 h38 hat; have k5 : Keeps [35] w3 w5 := (Keeps.below (hb5.trans (hb9.mono hb5.size))).trans (Keeps.grown h38 ho9.ro.typed); have hM6 := isMs_app ho9 hdc (HD.out _ k5) h28 h38; have hb7 : Below w3.heap.size w3 w5 := ((hb5.trans (hb9.mono hb5.size)).grown h38 (Nat.le_trans hb5.size hb9.size) (fun k hk => Nat.le_trans (by first | exact Nat.le_refl _ | exact (((Below.refl _ w3).alloc (Nat.le_refl _) _)).size) (ho4.ro.ge k hk).1))))
    all_goals have hB9 := hB.trans (hb8.mono hB.size)
    all_goals go_wp2_with (go_at_call 10; (with_reducible refine Calls.mono (AW.out _ (by first | exact hB9 | exact hB9.drew)) ?_); rintro en w9 ⟨rfl, hBF⟩)
    all_goals go_ret
    all_goals exact ⟨rfl, hBF⟩
  · go_upto_region 22 with (fail)
    have hal : Below w1.heap.size w1 (w1.alloc (.cells #[.string ⟨#[110, 101, 119]⟩, .int .i64 3, .int .i64 0, .int .i64 1, .slice none 0 0] 35)) := (Below.refl w1.heap.size w1).alloc (Nat.le_refl _) _
    have rm : Row (w1.alloc (.cells #[.string ⟨#[110, 101, 119]⟩, .int .i64 3, .int .i64 0, .int .i64 1, .slice none 0 0] 35)) w1.heap.size 35 (mdV (⟨[110, 101, 119], 3, 0, 1, []⟩ : Md) none 0).toArray := Row.born w1 35 _
    have HD := Lib.hid (fun (w' : World) (_ : Keeps [35] (w1.alloc (.cells #[.string ⟨#[110, 101, 119]⟩, .int .i64 3, .int .i64 0, .int .i64 1, .slice none 0 0] 35)) w') => IsB.nil w' none)
    have HE := Lib.hid (show chkE (⟨[110, 101, 119], 3, 0, 1, []⟩ : Md) ms = 6 by unfold chkE; rfl)
    have ho := ho.below hal
    have hB := hB.trans (hal.mono hB.size)
    have hdc : (⟨[110, 101, 119], 3, 0, 1, []⟩ : Md).data.length ≤ 0 := by decide
    clear hal hB1 PL
    generalize (w1.alloc (.cells #[.string ⟨#[110, 101, 119]⟩, .int .i64 3, .int .i64 0, .int .i64 1, .slice none 0 0] 35)) = w3 at *
    generalize w1.heap.size = gm at *
    have hM3 := ho.isMs
    have hcp := ho.cap
    have HM := Lib.hid (fun (w : World) (hb : Below w3.heap.size w3 w) => copied16 ms A c w (hM3.below hb) hcp (by have := hg.len; omega) (fun x hx => by have := hg.dat x hx; omega))
    have HK := Lib.hid (fun (w : World) (hb : Below w3.heap.size w3 w) => (show w.cell? ⟨gm, 0, none⟩ = some (.string (sv (⟨[110, 101, 119], 3, 0, 1, []⟩ : Md).name)) ∧ w.cell? ⟨gm, 1, none⟩ = some (.int .i64 (⟨[110, 101, 119], 3, 0, 1, []⟩ : Md).kind) ∧ w.cell? ⟨gm, 2, none⟩ = some (.int .i64 (⟨[110, 101, 119], 3, 0, 1, []⟩ : Md).width) ∧ w.cell? ⟨gm, 3, none⟩ = some (.int .i64 (⟨[110, 101, 119], 3, 0, 1, []⟩ : Md).entry) ∧ w.cell? ⟨gm, 4, none⟩ = some (.slice none (⟨[110, 101, 119], 3, 0, 1, []⟩ : Md).data.length 0) from ⟨(hb.cell (p := ⟨gm, 0, none⟩) rm.lt).trans (rm.cell 0), (hb.cell (p := ⟨gm, 1, none⟩) rm.lt).trans (rm.cell 1), (hb.cell (p := ⟨gm, 2, none⟩) rm.lt).trans (rm.cell 2), (hb.cell (p := ⟨gm, 3, none⟩) rm.lt).trans (rm.cell 3), (hb.cell (p := ⟨gm, 4, none⟩) rm.lt).trans (rm.cell 4)⟩))
    have HB := Lib.hid (fun (A5 : Option Addr) (c5 : Nat) (w : World) (h : IsMs w A5 (ms.length + 1) (ms ++ [(⟨[110, 101, 119], 3, 0, 1, []⟩ : Md)]) ∧ ms.length + 1 ≤ c5) => build_no (E := 6) (by simp) (bld_app hg HE.out (by decide)) (by decide) A5 c5 w h.1 h.2 (fun x hx => by
      rcases List.mem_append.1 hx with hx | hx
      · have := hg.names x hx; omega
      · rw [List.mem_singleton.1 hx]; decide) (fun x hx => by
      rcases List.mem_append.1 hx with hx | hx
      · have := hg.dat x hx; omega
      · rw [List.mem_singleton.1 hx]; decide))
    have HKW := HK.out w3.drew (Below.refl _ _).drew
    have hmll := hg.len
    go_region_held3 (fun w' => w'.cell? ⟨gm, 0, none⟩ = some (.string (sv (⟨[110, 101, 119], 3, 0, 1, []⟩ : Md).name)) ∧ w'.cell? ⟨gm, 1, none⟩ = some (.int .i64 (⟨[110, 101, 119], 3, 0, 1, []⟩ : Md).kind) ∧ w'.cell? ⟨gm, 2, none⟩ = some (.int .i64 (⟨[110, 101, 119], 3, 0, 1, []⟩ : Md).width) ∧ w'.cell? ⟨gm, 3, none⟩ = some (.int .i64 (⟨[110, 101, 119], 3, 0, 1, []⟩ : Md).entry) ∧ w'.cell? ⟨gm, 4, none⟩ = some (.slice none (⟨[110, 101, 119], 3, 0, 1, []⟩ : Md).data.length 0)) (first | exact HK.out _ (Below.refl _ _) | exact HK.out _ (Below.refl _ _).drew | exact HK.out _ ((Below.refl _ _).alloc (Nat.le_refl _) _) | exact HK.out _ ((Below.refl _ _).alloc (Nat.le_refl _) _).drew | exact HK.out _ hb5 | exact HK.out _ hb5.drew | exact HK.out _ (hb5.alloc hb5.size _) | exact HK.out _ (hb5.alloc hb5.size _).drew | exact HK.out _ hb7 | exact HK.out _ hb8) (first | (go_at_call 16; (with_reducible refine Calls.mono (HM.out _ (by first | exact Below.refl _ _ | exact (Below.refl _ _).drew | exact (Below.refl _ _).alloc (Nat.le_refl _) _ | exact ((Below.refl _ _).alloc (Nat.le_refl _) _).drew)) ?_); rintro en w4 ⟨A4, c4, qs4, rfl, ho4, hb4⟩; have hb5 : Below w3.heap.size w3 w4 := (by first | exact hb4 | exact ((Below.refl _ w3).drew).trans hb4 | exact (((Below.refl _ w3).alloc (Nat.le_refl _) _)).trans (hb4.mono (((Below.refl _ w3).alloc (Nat.le_refl _) _)).size) | exact (((Below.refl _ w3).alloc (Nat.le_refl _) _).drew).trans (hb4.mono (((Below.refl _ w3).alloc (Nat.le_refl _) _)).size)); have hb9 := (Below.refl w4.heap.size w4).alloc (Nat.le_refl _) (.cells (mdV (⟨[110, 101, 119], 3, 0, 1, []⟩ : Md) none 0).toArray 35); have ho9 := ho4.below hb9; try (have r49 : Row w4 w3.heap.size 35 (mdV (⟨[110, 101, 119], 3, 0, 1, []⟩ : Md) none 0).toArray := (by first | exact (Row.born w3 35 (mdV (⟨[110, 101, 119], 3, 0, 1, []⟩ : Md) none 0).toArray).below hb4 (Row.born w3 35 (mdV (⟨[110, 101, 119], 3, 0, 1, []⟩ : Md) none 0).toArray).lt | exact ((Row.born w3 35 (mdV (⟨[110, 101, 119], 3, 0, 1, []⟩ : Md) none 0).toArray).below (Below.refl _ _).drew (Row.born w3 35 (mdV (⟨[110, 101, 119], 3, 0, 1, []⟩ : Md) none 0).toArray).lt).below hb4 (Row.born w3 35 (mdV (⟨[110, 101, 119], 3, 0, 1, []⟩ : Md) none 0).toArray).lt))) | (go_at_call 12; (with_reducible refine Calls.mono (HB.out _ _ _ hM6) ?_); rintro en w6 ⟨rfl, hb6⟩; have hb8 := hb7.trans (hb6.mono hb7.size)) | (refine step_append_v (P := Tryd.prog) (news := (mdV (⟨[110, 101, 119], 3, 0, 1, []⟩ : Md) none 0)) Tryd.underlying25 info_md rfl (by decide) ho4.ro (by first | exact Row.born _ 35 _ | exact r49) rfl (mdV_ones _ _ _) (by omega) (by omega) hb4.size rfl rfl ?_; intro A5 c5 w5 h28 h38 hat; have k5 : Keeps [35] w3 w5 := (Keeps.below (hb5)).trans (Keeps.grown h38 ho4.ro.typed); have hM6 := isMs_app ho4 hdc (HD.out _ k5) h28 h38; have hb7 : Below w3.heap.size w3 w5 := (hb5.grown h38 hb5.size (fun k hk => Nat.le_trans (by first | exact Nat.le_refl _ | exact (((Below.refl _ w3).alloc (Nat.le_refl _) _)).size) (ho4.ro.ge k hk).1))) | (refine step_append_v (P := Tryd.prog) (news := (mdV (⟨[110, 101, 119], 3, 0, 1, []⟩ : Md) none 0)) Tryd.underlying25 info_md rfl (by decide) ho9.ro (by first | exact Row.born _ 35 _ | exact r49) rfl (mdV_ones _ _ _) (by omega) (by omega) (Nat.le_trans hb4.size hb9.size) rfl rfl ?_; intro A5 c5 w5 h28 h38 hat; have k5 : Keeps [35] w3 w5 := (Keeps.below (hb5.trans (hb9.mono hb5.size))).trans (Keeps.grown h38 ho9.ro.typed); have hM6 := isMs_app ho9 hdc (HD.out _ k5) h28 h38; have hb7 : Below w3.heap.size w3 w5 := ((hb5.trans (hb9.mono hb5.size)).grown h38 (Nat.le_trans hb5.size hb9.size) (fun k hk => Nat.le_trans (by first | exact Nat.le_refl _ | exact (((Below.refl _ w3).alloc (Nat.le_refl _) _)).size) (ho4.ro.ge k hk).1))))
    all_goals have hB9 := hB.trans (hb8.mono hB.size)
    all_goals go_wp2_with (go_at_call 10; (with_reducible refine Calls.mono (AW.out _ (by first | exact hB9 | exact hB9.drew)) ?_); rintro en w9 ⟨rfl, hBF⟩)
    all_goals go_ret
    all_goals exact ⟨rfl, hBF⟩
  · rcases Nat.eq_zero_or_pos ms.length with hz | hz
    · go_wp2_with (go_at_call 10; (with_reducible refine Calls.mono (AW.out _ hB1) ?_); rintro en w9 ⟨rfl, hBF⟩)
      go_ret
      exact ⟨rfl, hBF⟩
    · obtain ⟨b0, D0, dc0, rfl, hrr, hdc, hOD⟩ := ho.first hz
      have HE := Lib.hid (dup_first hg hz)
      obtain ⟨m0, hm0⟩ : ∃ m0, ms[0] = m0 := ⟨_, rfl⟩
      rw [hm0] at hrr hdc hOD HE
      have hal : Below w1.heap.size w1 (w1.alloc (.cells #[.string ⟨#[]⟩, .int .i64 0, .int .i64 0, .int .i64 0, .slice none 0 0] 35)) := (Below.refl w1.heap.size w1).alloc (Nat.le_refl _) _
      have hrr2 := rangeAt_below hrr hal
      have z1 : (ms.length = 0) = False := eq_false (by omega)
      have z2 : ((ms.length : Int) = 0) = False := eq_false (by omega)
      have z5 : (ms = []) = False := eq_false (fun h => by rw [h] at hz; exact absurd hz (by decide))
      have z3 : (0 : Int) < (ms.length : Int) := by omega
      have hne := ho.lt rfl
      have hmem : m0 ∈ ms := hm0 ▸ List.getElem_mem hz
      go_upto_region 22 with (first | ((with_reducible refine wp_load_g ?_ hrr2 Tryd.underlying35 rfl (info35 _ _ _) ?_ ?_); rfl; rfl) | ((with_reducible refine wp_row_store (L := (mdV m0 D0 dc0).toArray) (Row.bornAt (g := w1.heap.size) rfl 35 _) ?_ (info35 _ _ _) (mdV_one _ _ _) ?_ ?_ ?_); rfl; rfl; rfl; intro w3 u3 r3))
      have rz := Row.bornAt (w := w1) (g := w1.heap.size) rfl 35 #[.string ⟨#[]⟩, .int .i64 0, .int .i64 0, .int .i64 0, .slice none 0 0]
      have rm := r3
      have ho := (ho.below hal).upd u3 rz hne
      have hOD3 := (hOD.below hal).keeps (Keeps.upd (ts := [35]) u3 rz (by simp)) (by decide)
      have HD := Lib.hid (fun (w' : World) (k : Keeps [35] w3 w') => (hOD3.keeps k (by decide)).isB)
      have hb : Below w1.heap.size w1 w3 := Upd.below hal u3 (Nat.le_refl _)
      have hB := hB.trans (hb.mono hB.size)
      clear hal hB1 PL rz u3 hOD hOD3 hne hb hrr hrr2 r3 hm0 z1 z2 z3 z5
      generalize w1.heap.size = gm at *
      have hM3 := ho.isMs
      have hcp := ho.cap
      have HM := Lib.hid (fun (w : World) (hb : Below w3.heap.size w3 w) => copied16 ms (some ⟨b0, 0, none⟩) c w (hM3.below hb) hcp (by have := hg.len; omega) (fun x hx => by have := hg.dat x hx; omega))
      have HK := Lib.hid (fun (w : World) (hb : Below w3.heap.size w3 w) => (show w.cell? ⟨gm, 0, none⟩ = some (.string (sv (m0 : Md).name)) ∧ w.cell? ⟨gm, 1, none⟩ = some (.int .i64 (m0 : Md).kind) ∧ w.cell? ⟨gm, 2, none⟩ = some (.int .i64 (m0 : Md).width) ∧ w.cell? ⟨gm, 3, none⟩ = some (.int .i64 (m0 : Md).entry) ∧ w.cell? ⟨gm, 4, none⟩ = some (.slice D0 (m0 : Md).data.length dc0) from ⟨(hb.cell (p := ⟨gm, 0, none⟩) rm.lt).trans (rm.cell 0), (hb.cell (p := ⟨gm, 1, none⟩) rm.lt).trans (rm.cell 1), (hb.cell (p := ⟨gm, 2, none⟩) rm.lt).trans (rm.cell 2), (hb.cell (p := ⟨gm, 3, none⟩) rm.lt).trans (rm.cell 3), (hb.cell (p := ⟨gm, 4, none⟩) rm.lt).trans (rm.cell 4)⟩))
      have HB := Lib.hid (fun (A5 : Option Addr) (c5 : Nat) (w : World) (h : IsMs w A5 (ms.length + 1) (ms ++ [(m0 : Md)]) ∧ ms.length + 1 ≤ c5) => build_no (E := 56) (by simp) (bld_app hg HE.out (by decide)) (by decide) A5 c5 w h.1 h.2 (fun x hx => by
        rcases List.mem_append.1 hx with hx | hx
        · have := hg.names x hx; omega
        · rw [List.mem_singleton.1 hx]; have := hg.names m0 hmem; omega) (fun x hx => by
        rcases List.mem_append.1 hx with hx | hx
        · have := hg.dat x hx; omega
        · rw [List.mem_singleton.1 hx]; have := hg.dat m0 hmem; omega))
      have HKW := HK.out w3.drew (Below.refl _ _).drew
      have hmll := hg.len
      go_region_held3 (fun w' => w'.cell? ⟨gm, 0, none⟩ = some (.string (sv (m0 : Md).name)) ∧ w'.cell? ⟨gm, 1, none⟩ = some (.int .i64 (m0 : Md).kind) ∧ w'.cell? ⟨gm, 2, none⟩ = some (.int .i64 (m0 : Md).width) ∧ w'.cell? ⟨gm, 3, none⟩ = some (.int .i64 (m0 : Md).entry) ∧ w'.cell? ⟨gm, 4, none⟩ = some (.slice D0 (m0 : Md).data.length dc0)) (first | exact HK.out _ (Below.refl _ _) | exact HK.out _ (Below.refl _ _).drew | exact HK.out _ ((Below.refl _ _).alloc (Nat.le_refl _) _) | exact HK.out _ ((Below.refl _ _).alloc (Nat.le_refl _) _).drew | exact HK.out _ hb5 | exact HK.out _ hb5.drew | exact HK.out _ (hb5.alloc hb5.size _) | exact HK.out _ (hb5.alloc hb5.size _).drew | exact HK.out _ hb7 | exact HK.out _ hb8) (first | (go_at_call 16; (with_reducible refine Calls.mono (HM.out _ (by first | exact Below.refl _ _ | exact (Below.refl _ _).drew | exact (Below.refl _ _).alloc (Nat.le_refl _) _ | exact ((Below.refl _ _).alloc (Nat.le_refl _) _).drew)) ?_); rintro en w4 ⟨A4, c4, qs4, rfl, ho4, hb4⟩; have hb5 : Below w3.heap.size w3 w4 := (by first | exact hb4 | exact ((Below.refl _ w3).drew).trans hb4 | exact (((Below.refl _ w3).alloc (Nat.le_refl _) _)).trans (hb4.mono (((Below.refl _ w3).alloc (Nat.le_refl _) _)).size) | exact (((Below.refl _ w3).alloc (Nat.le_refl _) _).drew).trans (hb4.mono (((Below.refl _ w3).alloc (Nat.le_refl _) _)).size)); have hb9 := (Below.refl w4.heap.size w4).alloc (Nat.le_refl _) (.cells (mdV (m0 : Md) D0 dc0).toArray 35); have ho9 := ho4.below hb9; try (have r49 : Row w4 w3.heap.size 35 (mdV (m0 : Md) D0 dc0).toArray := (by first | exact (Row.born w3 35 (mdV (m0 : Md) D0 dc0).toArray).below hb4 (Row.born w3 35 (mdV (m0 : Md) D0 dc0).toArray).lt | exact ((Row.born w3 35 (mdV (m0 : Md) D0 dc0).toArray).below (Below.refl _ _).drew (Row.born w3 35 (mdV (m0 : Md) D0 dc0).toArray).lt).below hb4 (Row.born w3 35 (mdV (m0 : Md) D0 dc0).toArray).lt))) | (go_at_call 12; (with_reducible refine Calls.mono (HB.out _ _ _ hM6) ?_); rintro en w6 ⟨rfl, hb6⟩; have hb8 := hb7.trans (hb6.mono hb7.size)) | (refine step_append_v (P := Tryd.prog) (news := (mdV (m0 : Md) D0 dc0)) Tryd.underlying25 info_md rfl (by decide) ho4.ro (by first | exact Row.born _ 35 _ | exact r49) rfl (mdV_ones _ _ _) (by omega) (by omega) hb4.size rfl rfl ?_; intro A5 c5 w5 h28 h38 hat; have k5 : Keeps [35] w3 w5 := (Keeps.below (hb5)).trans (Keeps.grown h38 ho4.ro.typed); have hM6 := isMs_app ho4 hdc (HD.out _ k5) h28 h38; have hb7 : Below w3.heap.size w3 w5 := (hb5.grown h38 hb5.size (fun k hk => Nat.le_trans (by first | exact Nat.le_refl _ | exact (((Below.refl _ w3).alloc (Nat.le_refl _) _)).size) (ho4.ro.ge k hk).1))) | (refine step_append_v (P := Tryd.prog) (news := (mdV (m0 : Md) D0 dc0)) Tryd.underlying25 info_md rfl (by decide) ho9.ro (by first | exact Row.born _ 35 _ | exact r49) rfl (mdV_ones _ _ _) (by omega) (by omega) (Nat.le_trans hb4.size hb9.size) rfl rfl ?_; intro A5 c5 w5 h28 h38 hat; have k5 : Keeps [35] w3 w5 := (Keeps.below (hb5.trans (hb9.mono hb5.size))).trans (Keeps.grown h38 ho9.ro.typed); have hM6 := isMs_app ho9 hdc (HD.out _ k5) h28 h38; have hb7 : Below w3.heap.size w3 w5 := ((hb5.trans (hb9.mono hb5.size)).grown h38 (Nat.le_trans hb5.size hb9.size) (fun k hk => Nat.le_trans (by first | exact Nat.le_refl _ | exact (((Below.refl _ w3).alloc (Nat.le_refl _) _)).size) (ho4.ro.ge k hk).1))))
      all_goals have hB9 := hB.trans (hb8.mono hB.size)
      all_goals go_wp2_with (go_at_call 10; (with_reducible refine Calls.mono (AW.out _ (by first | exact hB9 | exact hB9.drew)) ?_); rintro en w9 ⟨rfl, hBF⟩)
      all_goals go_ret
      all_goals exact ⟨rfl, hBF⟩
end Go.Proofs.YtigbmlgllgcbhaaDoor
