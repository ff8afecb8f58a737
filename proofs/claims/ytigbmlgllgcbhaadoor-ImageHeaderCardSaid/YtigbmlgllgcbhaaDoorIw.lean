/- Image: ImageRoundTrip. -/
import Derived.Test.YtigbmlgllgcbhaaDoorIv
import Derived.Test.YtigbmlgllgcbhaaDoorIu
import Derived.Test.YtigbmlgllgcbhaaDoorIl
import Derived.Test.YtigbmlgllgcbhaaDoorIsRow
namespace Go.Proofs.YtigbmlgllgcbhaaDoor
open Go.RowKit
set_option linter.unusedVariables false
set_option linter.unusedSimpArgs false
theorem IsRow.isN {w : World} {a : Option Addr} {len cap : Nat} {zs : List Int} (h : IsRow .i64 w a len cap zs) : ∃ l, IsN w a len l ∧ len ≤ 9223372036854775807 := by
  rcases h with ⟨rfl, rfl, rfl, rfl⟩ | ⟨x, rfl, hl, hm, hz, hc, hw⟩
  · exact ⟨[], IsN.nil _ _, by omega⟩
  · refine ⟨zs.take len, ⟨by simp; omega, fun hn => ?_⟩, by simp only [maxLen] at hm; omega⟩
    have h0 := hc 0 (by omega)
    obtain ⟨b, o, sp⟩ := x
    have hsp : sp = none := by simpa [Addr.add] using World.cell?_spot h0
    subst hsp
    refine ⟨b, o, rfl, fun i hi => ?_⟩
    have hi' : i < zs.length := by simp at hi; omega
    have := hc i hi'
    rw [Addr.add_mid] at this
    rw [this]
    have hg : zs.getD i 0 = zs[i] := by simp [hi']
    rw [hg]
    simp
set_option maxRecDepth 100000 in
set_option maxHeartbeats 8000000 in
theorem walk_rt (W : World) (a0 : Option Addr) (len0 cap0 : Nat) (z0 : List Int) (a1 : Option Addr) (len1 cap1 : Nat) (z1 : List Int) (w0 : IsRow .i64 W a0 len0 cap0 z0) (w1 : IsRow .u8 W a1 len1 cap1 z1) : Calls Tryd.prog 3 #[.slice a0 len0 cap0, .slice a1 len1 cap1] W (True1 W) := by
  obtain ⟨l, hL, hl9⟩ := w0.isN
  obtain ⟨bs, hbs, hb9⟩ := w1.isB
  have hc1 := w1.cap
  obtain rfl := hL.1
  obtain rfl := hbs.1
  clear w0 w1
  have AW := Lib.hid (fun (w : World) (hB : Below W.heap.size W w) => (awake w).mono (R' := fun en w' => en = .returned (.bool true) ∧ Below W.heap.size W w') (fun en w' h => ⟨h.1, hB.trans (h.2.mono hB.size)⟩))
  have B0 := Below.refl W.heap.size W
  by_cases hl : 200 < l.length
  · have d0 : decide (200 < l.length) = true := decide_eq_true hl
    have d0i : decide ((200 : Int) < (l.length : Int)) = true := decide_eq_true (by omega)
    clear hl
    go_enter Tryd.func3, Tryd.ntmps3
    go_wp2_with (go_at_call 10; (with_reducible refine (AW.out _ B0).mono ?_); rintro en w9 ⟨rfl, hB9⟩)
    go_ret
    exact ⟨rfl, hB9⟩
  have d0 : decide (200 < l.length) = false := decide_eq_false hl
  have d0i : decide ((200 : Int) < (l.length : Int)) = false := decide_eq_false (by omega)
  by_cases hb : 6000 < bs.length
  · have d1 : decide (6000 < bs.length) = true := decide_eq_true hb
    have d1i : decide ((6000 : Int) < (bs.length : Int)) = true := decide_eq_true (by omega)
    clear hl hb
    go_enter Tryd.func3, Tryd.ntmps3
    go_wp2_with (go_at_call 10; (with_reducible refine (AW.out _ B0).mono ?_); rintro en w9 ⟨rfl, hB9⟩)
    go_ret
    exact ⟨rfl, hB9⟩
  have d1 : decide (6000 < bs.length) = false := decide_eq_false hb
  have d1i : decide ((6000 : Int) < (bs.length : Int)) = false := decide_eq_false (by omega)
  have MO := Lib.hid (modules l a0 cap0 W hL (by omega))
  clear hL
  go_enter Tryd.func3, Tryd.ntmps3
  go_upto_region 4 with (go_at_call 11; (with_reducible refine MO.out.mono ?_); rintro en w1 ⟨ms, A, c, qs, hg, rfl, ho, hB⟩)
  have B1 := Lib.hid (build_is rfl hg.bld A c w1 ho.isMs ho.cap)
  obtain ⟨L, hL⟩ : ∃ L, (imImg ms).length = L := ⟨_, rfl⟩
  rw [hL] at B1
  clear d0 d0i d1 d1i MO B0
  go_upto_region 5 with (go_at_call 12; (with_reducible refine B1.out.mono ?_); rintro en w2 ⟨g2, rfl, hg2, r2, hb2⟩)
  have hI2 := IsB.of_row r2
  rw [hL] at hI2
  have P1 := Lib.hid (parse_is hg.bld hL.symm _ L w2 hI2 (Nat.le_refl _))
  have ho := ho.below hb2
  have hB := hB.trans (hb2.mono hB.size)
  clear hb2 r2 hI2 hg2 B1
  go_upto_region 6 with (go_at_call 13; (with_reducible refine P1.out.mono ?_); rintro en w3 ⟨A3, c3, qs3, rfl, ho3, hb3⟩)
  have ho := ho.below hb3
  have hB := hB.trans (hb3.mono hB.size)
  have S1 := Lib.hid (same14 ms A3 A c3 c w3 ho3.isMs ho3.cap ho.isMs ho.cap (by have := hg.len; omega))
  clear hb3 P1 ho3 ho
  go_upto_region 8 with (go_at_call 14; (with_reducible refine S1.out.mono ?_); rintro en w4 ⟨rfl, hb4⟩)
  have hB := hB.trans (hb4.mono hB.size)
  have hI4 := hbs.below hB
  have PB := parse a1 cap1 bs w4 hI4 hc1 (by omega)
  unfold ParP at PB
  clear hb4 S1
  by_cases hp : parE bs = 0
  · obtain ⟨p1, p2, p3, p4, p5, -⟩ := par_back hp
    obtain ⟨n, hn⟩ : ∃ n, cntN bs = n := ⟨_, rfl⟩
    rw [hn] at p1 p2 p4 p5 PB
    have PB2 := Lib.hid (PB.mono (R' := fun en W' => ∃ A c qs, en = .returned (.tuple #[.slice A n c, .int .i64 0]) ∧ OwnMs W' w4.heap.size A n c qs (rdMs bs n) ∧ Below w4.heap.size w4 W') (fun en W' h => by
      rcases h with ⟨h1, -⟩ | ⟨-, h1⟩
      · exact absurd hp h1
      · exact h1))
    clear PB
    go_upto_region 11 with (go_at_call 13; (with_reducible refine PB2.out.mono ?_); rintro en w5 ⟨A5, c5, qs5, rfl, ho5, hb5⟩)
    have hB := hB.trans (hb5.mono hB.size)
    have B2 := build_is (rdMs_len bs n).symm p1 A5 c5 w5 ho5.isMs ho5.cap
    rw [p2] at B2
    have B2 := Lib.hid B2
    clear hb5 PB2 ho5 hI4
    go_upto_region 12 with (go_at_call 12; (with_reducible refine B2.out.mono ?_); rintro en w6 ⟨g6, rfl, hg6, r6, hb6⟩)
    have hB := hB.trans (hb6.mono hB.size)
    have hI6 := IsB.of_row r6
    have hJ6 := hbs.below hB
    have hs1 := run_str (P := Tryd.prog) (w := w6) (dst := 9) Tryd.underlying23 Tryd.underlying5 Tryd.underlying9 bs.length hI6
    have hs2 := run_str (P := Tryd.prog) (w := w6) (dst := 9) Tryd.underlying23 Tryd.underlying5 Tryd.underlying9 cap1 hJ6
    clear hb6 r6 hI6 hJ6 hg6 B2
    go_wp2_with (go_at_call 10; (with_reducible refine (AW.out _ hB).mono ?_); rintro en w9 ⟨rfl, hB9⟩)
    go_ret
    exact ⟨rfl, hB9⟩
  · have PB2 := Lib.hid (PB.mono (R' := fun en W' => en = .returned (.tuple #[.slice none 0 0, .int .i64 (parE bs)]) ∧ Below w4.heap.size w4 W') (fun en W' h => by
      rcases h with ⟨-, h1⟩ | ⟨h1, -⟩
      · exact h1
      · exact absurd h1 hp))
    have hE : (parE bs != 0) = true := by simpa using hp
    generalize parE bs = E at *
    clear PB
    go_upto_region 10 with (go_at_call 13; (with_reducible refine PB2.out.mono ?_); rintro en w5 ⟨rfl, hb5⟩)
    have hB := hB.trans (hb5.mono hB.size)
    clear hb5 PB2
    go_wp2_with (go_at_call 10; (with_reducible refine (AW.out _ hB).mono ?_); rintro en w9 ⟨rfl, hB9⟩)
    go_ret
    exact ⟨rfl, hB9⟩
end Go.Proofs.YtigbmlgllgcbhaaDoor
