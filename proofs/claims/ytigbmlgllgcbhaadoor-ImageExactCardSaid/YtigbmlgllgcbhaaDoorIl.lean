/- Image: Same. -/
import Derived.Test.YtigbmlgllgcbhaaDoorIk
import Derived.Deep.RegionHeld3
namespace Go.Proofs.YtigbmlgllgcbhaaDoor
open Go.RowKit
set_option linter.unusedVariables false
set_option linter.unusedSimpArgs false
set_option maxRecDepth 100000 in
set_option maxHeartbeats 8000000 in
theorem same14 (ms : List Md) (A A' : Option Addr) (c c' : Nat) (W : World) (hM : IsMs W A ms.length ms) (hc : ms.length ≤ c) (hM' : IsMs W A' ms.length ms) (hc' : ms.length ≤ c') (hml : ms.length ≤ 1000000) : Calls Tryd.prog 14 #[.slice A ms.length c, .slice A' ms.length c'] W (fun en W' => en = .returned (.bool true) ∧ Below W.heap.size W W') := by
  go_enter Tryd.func14, Tryd.ntmps14
  go_upto_region 4 with (fail)
  go_loopw [5] (fun i wr => ∃ j : Nat, j ≤ ms.length ∧ i = .int .i64 j ∧ Below W.heap.size W wr) (fun i _ => ms.length - (intOf i).toNat)
  case atStart => exact ⟨0, by omega, rfl, Below.refl _ _⟩
  case round =>
    obtain ⟨j, hj, rfl, hB⟩ := hrel
    rcases Nat.lt_or_ge j ms.length with hjl | hjl
    · have d1 : decide (j < ms.length) = true := decide_eq_true hjl
      have hji : (j : Int) < ms.length := by omega
      have hj0 : (0 : Int) ≤ (j : Int) := by omega
      have hWr : W.heap.size ≤ wr.heap.size := hB.size
      obtain ⟨b, o, hA, hcc⟩ := (hM.below hB).2 (by omega)
      subst hA
      obtain ⟨b2, o2, hA2, hcc2⟩ := (hM'.below hB).2 (by omega)
      subst hA2
      obtain ⟨D, dc, hrg, hdc, hID⟩ := hcc j hjl
      obtain ⟨D2, dc2, hrg2, hdc2, hID2⟩ := hcc2 j hjl
      obtain ⟨m, hm⟩ : ∃ m, ms[j] = m := ⟨_, rfl⟩
      rw [hm] at hrg hdc hID hrg2 hdc2 hID2
      clear hcc hcc2 hm
      have hu := Tryd.underlying35
      have hi1 : (Tryd.prog.info? 35).map (·.size) = some (mdV m D dc).length := info35 m D dc
      have hi2 : (Tryd.prog.info? 35).map (·.size) = some (mdV m D2 dc2).length := info35 m D2 dc2
      go_upto_region 6 with (fail)
      have hk1 : wr.cell? ⟨b, o + j * 5, none⟩ = some (.string (sv m.name)) ∧ wr.cell? ⟨b, o + j * 5 + 1, none⟩ = some (.int .i64 m.kind) ∧ wr.cell? ⟨b, o + j * 5 + 2, none⟩ = some (.int .i64 m.width) ∧ wr.cell? ⟨b, o + j * 5 + 3, none⟩ = some (.int .i64 m.entry) ∧ wr.cell? ⟨b, o + j * 5 + 4, none⟩ = some (.slice D m.data.length dc) := ⟨hrg 0 _ rfl, hrg 1 _ rfl, hrg 2 _ rfl, hrg 3 _ rfl, hrg 4 _ rfl⟩
      have hk2 : wr.cell? ⟨b2, o2 + j * 5, none⟩ = some (.string (sv m.name)) ∧ wr.cell? ⟨b2, o2 + j * 5 + 1, none⟩ = some (.int .i64 m.kind) ∧ wr.cell? ⟨b2, o2 + j * 5 + 2, none⟩ = some (.int .i64 m.width) ∧ wr.cell? ⟨b2, o2 + j * 5 + 3, none⟩ = some (.int .i64 m.entry) ∧ wr.cell? ⟨b2, o2 + j * 5 + 4, none⟩ = some (.slice D2 m.data.length dc2) := ⟨hrg2 0 _ rfl, hrg2 1 _ rfl, hrg2 2 _ rfl, hrg2 3 _ rfl, hrg2 4 _ rfl⟩
      obtain ⟨x0, x1, x2, x3, x4⟩ := hk1
      obtain ⟨y0, y1, y2, y3, y4⟩ := hk2
      have nx0 := World.new_ne _ _ x0
      have nx1 := World.new_ne _ _ x1
      have nx2 := World.new_ne _ _ x2
      have nx3 := World.new_ne _ _ x3
      have nx4 := World.new_ne _ _ x4
      have ny0 := World.new_ne _ _ y0
      have ny1 := World.new_ne _ _ y1
      have ny2 := World.new_ne _ _ y2
      have ny3 := World.new_ne _ _ y3
      have ny4 := World.new_ne _ _ y4
      have lb := block_lt_of_cell x0
      have lb2 := block_lt_of_cell y0
      dsimp only at lb lb2
      clear hi1 hi2 hrg hrg2
      go_region_held3 (fun w' => (w'.cell? ⟨b, o + j * 5, none⟩ = some (.string (sv m.name)) ∧ w'.cell? ⟨b, o + j * 5 + 1, none⟩ = some (.int .i64 m.kind) ∧ w'.cell? ⟨b, o + j * 5 + 2, none⟩ = some (.int .i64 m.width) ∧ w'.cell? ⟨b, o + j * 5 + 3, none⟩ = some (.int .i64 m.entry) ∧ w'.cell? ⟨b, o + j * 5 + 4, none⟩ = some (.slice D m.data.length dc)) ∧ (w'.cell? ⟨b2, o2 + j * 5, none⟩ = some (.string (sv m.name)) ∧ w'.cell? ⟨b2, o2 + j * 5 + 1, none⟩ = some (.int .i64 m.kind) ∧ w'.cell? ⟨b2, o2 + j * 5 + 2, none⟩ = some (.int .i64 m.width) ∧ w'.cell? ⟨b2, o2 + j * 5 + 3, none⟩ = some (.int .i64 m.entry) ∧ w'.cell? ⟨b2, o2 + j * 5 + 4, none⟩ = some (.slice D2 m.data.length dc2))) (go_keep) (fail)
      · have hb9 : Below wr.heap.size wr ((wr.alloc (.cells #[.string (sv m.name), .int .i64 m.kind, .int .i64 m.width, .int .i64 m.entry, .slice D m.data.length dc] 35)).alloc (.cells #[.string (sv m.name), .int .i64 m.kind, .int .i64 m.width, .int .i64 m.entry, .slice D2 m.data.length dc2] 35)).drew := (((Below.refl wr.heap.size wr).alloc (Nat.le_refl _) (.cells #[.string (sv m.name), .int .i64 m.kind, .int .i64 m.width, .int .i64 m.entry, .slice D m.data.length dc] 35)).alloc (by simp) (.cells #[.string (sv m.name), .int .i64 m.kind, .int .i64 m.width, .int .i64 m.entry, .slice D2 m.data.length dc2] 35)).drew
        have hs1 := run_str (P := Tryd.prog) (w := ((wr.alloc (.cells #[.string (sv m.name), .int .i64 m.kind, .int .i64 m.width, .int .i64 m.entry, .slice D m.data.length dc] 35)).alloc (.cells #[.string (sv m.name), .int .i64 m.kind, .int .i64 m.width, .int .i64 m.entry, .slice D2 m.data.length dc2] 35)).drew) (dst := 9) Tryd.underlying23 Tryd.underlying5 Tryd.underlying9 dc (hID.below hb9)
        have hs2 := run_str (P := Tryd.prog) (w := ((wr.alloc (.cells #[.string (sv m.name), .int .i64 m.kind, .int .i64 m.width, .int .i64 m.entry, .slice D m.data.length dc] 35)).alloc (.cells #[.string (sv m.name), .int .i64 m.kind, .int .i64 m.width, .int .i64 m.entry, .slice D2 m.data.length dc2] 35)).drew) (dst := 9) Tryd.underlying23 Tryd.underlying5 Tryd.underlying9 dc2 (hID2.below hb9)
        have hB := hB.trans (hb9.mono hB.size)
        clear x0 x1 x2 x3 x4 y0 y1 y2 y3 y4 nx0 nx1 nx2 nx3 nx4 ny0 ny1 ny2 ny3 ny4 hb9 hu
        go_wp2
        exact ⟨⟨j + 1, by omega, by go_num, hB⟩, by simp [intOf]; omega⟩
      · have hb9 : Below wr.heap.size wr ((wr.alloc (.cells #[.string (sv m.name), .int .i64 m.kind, .int .i64 m.width, .int .i64 m.entry, .slice D2 m.data.length dc2] 35)).alloc (.cells #[.string (sv m.name), .int .i64 m.kind, .int .i64 m.width, .int .i64 m.entry, .slice D m.data.length dc] 35)).drew := (((Below.refl wr.heap.size wr).alloc (Nat.le_refl _) (.cells #[.string (sv m.name), .int .i64 m.kind, .int .i64 m.width, .int .i64 m.entry, .slice D2 m.data.length dc2] 35)).alloc (by simp) (.cells #[.string (sv m.name), .int .i64 m.kind, .int .i64 m.width, .int .i64 m.entry, .slice D m.data.length dc] 35)).drew
        have hs1 := run_str (P := Tryd.prog) (w := ((wr.alloc (.cells #[.string (sv m.name), .int .i64 m.kind, .int .i64 m.width, .int .i64 m.entry, .slice D2 m.data.length dc2] 35)).alloc (.cells #[.string (sv m.name), .int .i64 m.kind, .int .i64 m.width, .int .i64 m.entry, .slice D m.data.length dc] 35)).drew) (dst := 9) Tryd.underlying23 Tryd.underlying5 Tryd.underlying9 dc (hID.below hb9)
        have hs2 := run_str (P := Tryd.prog) (w := ((wr.alloc (.cells #[.string (sv m.name), .int .i64 m.kind, .int .i64 m.width, .int .i64 m.entry, .slice D2 m.data.length dc2] 35)).alloc (.cells #[.string (sv m.name), .int .i64 m.kind, .int .i64 m.width, .int .i64 m.entry, .slice D m.data.length dc] 35)).drew) (dst := 9) Tryd.underlying23 Tryd.underlying5 Tryd.underlying9 dc2 (hID2.below hb9)
        have hB := hB.trans (hb9.mono hB.size)
        clear x0 x1 x2 x3 x4 y0 y1 y2 y3 y4 nx0 nx1 nx2 nx3 nx4 ny0 ny1 ny2 ny3 ny4 hb9 hu
        go_wp2
        exact ⟨⟨j + 1, by omega, by go_num, hB⟩, by simp [intOf]; omega⟩
    · obtain rfl : j = ms.length := by omega
      have d1 : decide (ms.length < ms.length) = false := by simp
      go_wp2
      go_ret
      exact ⟨rfl, hB⟩
end Go.Proofs.YtigbmlgllgcbhaaDoor
