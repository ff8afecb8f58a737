/- Image: the sanity check. -/
import Derived.Test.YtigbmlgllgcbhaaDoorIp
import Derived.Test.YtigbmlgllgcbhaaDoorIq
import Derived.Lib.SlBytesConst
namespace Go.Proofs.YtigbmlgllgcbhaaDoor
open Go.RowKit
set_option linter.unusedVariables false
set_option linter.unusedSimpArgs false
def mA : Md := ⟨[112], 3, 0, 0, [120, 121]⟩
theorem bld_nil : bldE [] = 0 := by decide
theorem bld_mA : bldE [mA] = 0 := by decide
theorem len_nil : (imImg []).length = 64 := by rw [imImg_len _ (by simp)]; decide
theorem len_mA : (imImg [mA]).length = 128 := by rw [imImg_len _ (by simp [mA])]; decide
theorem img4 (ms : List Md) : seg (imImg ms) 0 4 = [77, 75, 66, 73] := by simp [imImg, imHead, seg]
theorem build_is {ms : List Md} {n : Nat} (hn : n = ms.length) (h : bldE ms = 0) (A : Option Addr) (c : Nat) (W : World) (hM : IsMs W A n ms) (hc : n ≤ c) : Calls Tryd.prog 12 #[.slice A n c] W (fun en W' => ∃ g, en = .returned (.tuple #[.slice (some ⟨g, 0, none⟩) (imImg ms).length (imImg ms).length, .int .i64 0]) ∧ W.heap.size ≤ g ∧ Row W' g 5 ((imImg ms).map bv).toArray ∧ Below W.heap.size W W') := by
  subst hn
  have hs := (bld_ok h).2.2
  have hb := build ms A c W hM hc (fun m hm => by have := bld_names h m hm; omega) (fun m hm => by
    obtain ⟨k, hk, rfl⟩ := List.mem_iff_getElem.1 hm
    have h1 := imFin_take ms (16 + 48 * ms.length) k hk
    have h2 : imFin (16 + 48 * ms.length) ms ≤ imSize ms := up64_ge _
    omega)
  refine hb.mono ?_
  rintro en W' (⟨h1, -⟩ | ⟨-, h1⟩)
  · exact absurd h h1
  · exact h1
/-- An image that Build made is parsed back. -/
theorem parse_is {ms : List Md} {L : Nat} (h : bldE ms = 0) (hL : L = (imImg ms).length) (A : Option Addr) (c : Nat) (W : World) (hA : IsB W A L (imImg ms)) (hc : L ≤ c) : Calls Tryd.prog 13 #[.slice A L c] W (fun en W' => ∃ A c qs, en = .returned (.tuple #[.slice A ms.length c, .int .i64 0]) ∧ OwnMs W' W.heap.size A ms.length c qs ms ∧ Below W.heap.size W W') := by
  subst hL
  obtain ⟨h1, h2, h3⟩ := par_img h
  have hl : (imImg ms).length ≤ 1000000000 := by rw [imImg_len ms (bld_names h)]; have := (bld_ok h).2.2; omega
  refine (parse A c (imImg ms) W hA hc hl).mono ?_
  rintro en W' (⟨h4, -⟩ | ⟨-, A2, c2, qs, he, ho, hb⟩)
  · exact absurd h1 h4
  · rw [h2] at he ho
    rw [h3] at ho
    exact ⟨A2, c2, qs, he, ho, hb⟩
theorem isMs_one {w : World} {g : Nat} {m : Md} {D : Option Addr} {dc : Nat} (r : Row w g 35 (mdV m D dc).toArray) (hc : m.data.length ≤ dc) (hD : IsB w D m.data.length m.data) : IsMs w (some ⟨g, 0, none⟩) 1 [m] := by
  refine ⟨rfl, fun _ => ⟨g, 0, rfl, fun i hi => ?_⟩⟩
  obtain rfl : i = 0 := by simpa using hi
  exact ⟨D, dc, by simpa using r.range, hc, hD⟩
theorem IsMs.cell {w : World} {b o n : Nat} {ms : List Md} (h : IsMs w (some ⟨b, o, none⟩) n ms) (r : Nat) (hr : r < ms.length) : ∃ D dc, w.cell? ⟨b, o + r * 5, none⟩ = some (.string (sv ms[r].name)) ∧ w.cell? ⟨b, o + r * 5 + 1, none⟩ = some (.int .i64 ms[r].kind) ∧ w.cell? ⟨b, o + r * 5 + 2, none⟩ = some (.int .i64 ms[r].width) ∧ w.cell? ⟨b, o + r * 5 + 3, none⟩ = some (.int .i64 ms[r].entry) ∧ w.cell? ⟨b, o + r * 5 + 4, none⟩ = some (.slice D ms[r].data.length dc) ∧ ms[r].data.length ≤ dc ∧ IsB w D ms[r].data.length ms[r].data := by
  obtain ⟨b', o', e, h2⟩ := h.2 (by have := h.1; omega)
  cases e
  obtain ⟨D, dc, hr5, hc, hD⟩ := h2 r hr
  exact ⟨D, dc, hr5 0 _ rfl, hr5 1 _ rfl, hr5 2 _ rfl, hr5 3 _ rfl, hr5 4 _ rfl, hc, hD⟩
set_option maxRecDepth 100000 in
set_option maxHeartbeats 8000000 in
theorem awake (W : World) : Calls Tryd.prog 10 #[] W (True1 W) := by
  have B0 := Lib.hid (build_is (n := 0) (ms := []) rfl bld_nil none 0 W (IsMs.nil _ _) (by decide))
  rw [len_nil] at B0
  have kc := fun (w : World) (C : Array Value) (n c : Nat) => Lib.run_convert_bytes_const (P := Tryd.prog) w 23 5 C n c Tryd.underlying23 Tryd.underlying5
  go_enter Tryd.func10, Tryd.ntmps10
  go_upto_region 2 with (go_at_call 12; (with_reducible refine B0.out.mono ?_); rintro en w1 ⟨g1, rfl, hg1, r1, hB⟩)
  have hbi := (Below.refl w1.heap.size w1).alloc (Nat.le_refl _) (.cells #[.int .u8 120, .int .u8 121] 5 (2, 3))
  have hI := IsB.lit w1 5 (2, 3) [120, 121]
  have r1 := r1.below hbi r1.lt
  have hB := hB.trans (hbi.mono hB.size)
  have hI : IsB (w1.alloc (.cells #[.int .u8 120, .int .u8 121] 5 (2, 3))) (some ⟨w1.heap.size, 0, none⟩) 2 [120, 121] := hI
  have hal := (Below.refl _ (w1.alloc (.cells #[.int .u8 120, .int .u8 121] 5 (2, 3)))).alloc (Nat.le_refl _) (.cells (mdV mA (some ⟨w1.heap.size, 0, none⟩) 2).toArray 35)
  have rm := Row.born (w1.alloc (.cells #[.int .u8 120, .int .u8 121] 5 (2, 3))) 35 (mdV mA (some ⟨w1.heap.size, 0, none⟩) 2).toArray
  have hsz : (w1.alloc (.cells #[.int .u8 120, .int .u8 121] 5 (2, 3))).heap.size = w1.heap.size + 1 := Array.size_push ..
  rw [hsz] at rm
  have hM := isMs_one rm (by decide) (hI.below hal)
  have hWs := (hbi.size : w1.heap.size ≤ _)
  have B1 := Lib.hid (build_is (n := 1) (ms := [mA]) rfl bld_mA _ 1 _ hM (by decide))
  rw [len_mA] at B1
  have r1 := r1.below hal r1.lt
  have hB := hB.trans (hal.mono hB.size)
  clear hbi hI hal rm hM B0 hsz hWs
  go_upto_region 3 with (first | (refine wp_build_1 (P := Tryd.prog) rfl rfl Tryd.underlying25 info_md (L := (mdV mA (some ⟨w1.heap.size, 0, none⟩) 2).toArray) rfl (by omega) (by omega) rfl ?_) | (go_at_call 12; (with_reducible refine B1.out.mono ?_); rintro en w2 ⟨g2, rfl, hg2, r2, hb2⟩))
  have hB := hB.trans (hb2.mono hB.size)
  have r1 := r1.below hb2 r1.lt
  have hI2 := IsB.of_row r2
  rw [len_mA] at hI2
  have B2 := Lib.hid (parse_is (ms := [mA]) bld_mA len_mA.symm _ 128 w2 hI2 (by decide))
  clear hb2 r2 hI2 hg2 B1
  go_upto_region 4 with (go_at_call 13; (with_reducible refine B2.out.mono ?_); rintro en w3 ⟨A3, c3, qs3, rfl, ho3, hb3⟩)
  have hB := hB.trans (hb3.mono hB.size)
  have hI1 := (IsB.of_row (r1.below hb3 r1.lt)).part 0 4 (by rw [len_nil]; decide)
  rw [img4] at hI1
  have hs1 := run_str (P := Tryd.prog) (w := w3) (dst := 9) Tryd.underlying23 Tryd.underlying5 Tryd.underlying9 64 hI1
  have hM3 := ho3.isMs
  obtain ⟨b3, o3, rfl, -⟩ := hM3.2 (by decide)
  obtain ⟨D3, dc3, -, -, -, -, q9, -, hI3⟩ := hM3.cell 0 (by decide)
  have q4 : w3.cell? ⟨b3, o3 + 4, none⟩ = some (.slice D3 2 dc3) := by simpa [mA] using q9
  have hI3 : IsB w3 D3 2 [120, 121] := hI3
  have hs2 := run_str (P := Tryd.prog) (w := w3) (dst := 9) Tryd.underlying23 Tryd.underlying5 Tryd.underlying9 dc3 hI3
  clear hb3 r1 hM3 ho3 B2 hI1 hI3 q9
  go_wp2
  go_ret
  exact ⟨rfl, hB⟩
end Go.Proofs.YtigbmlgllgcbhaaDoor
