/- The walk of RingFill. -/
import Derived.Test.YthjkhambmgepdaaPoll
import Derived.Test.YthjkhambmgepdaaW1
namespace Go.Proofs.Ythjkhambmgepdaa
open Go.RowKit
set_option linter.unusedVariables false
theorem info_line : (Try.prog.info? 40).map (fun i => (i.zero, i.size, i.bytes)) = some (some (.agg ZL), 61, 88) := by kernel_rfl
theorem mod_ne_lt {B N i k : Nat} (hik : i < k) (hk : k < N) : (B + i) % N ≠ (B + k) % N := by
  intro h
  have h1 := Nat.sub_mod_eq_zero_of_mod_eq h.symm
  rw [show B + k - (B + i) = k - i by omega, Nat.mod_eq_of_lt (by omega)] at h1
  omega
theorem mod_ne {B N i k : Nat} (hne : i ≠ k) (hi : i < N) (hk : k < N) : (B + i) % N ≠ (B + k) % N := by
  rcases Nat.lt_or_gt_of_ne hne with h | h
  · exact mod_ne_lt h hk
  · exact (mod_ne_lt h hi).symm
def sentL (N B k : Nat) : Array Value := LV 1 (ep N ((B : Int) + k)) true ((1 : Nat) : Int) 9 ([UInt8.ofNat k] ++ z56.drop 1)
theorem MemL.cell' {w : World} {g : Nat} {t : TypeId} {ls : List (List Value)} (h : MemL w g t ls) {i : Nat} {L : Array Value} (hi : ls[i]? = some L.toList) (c : Nat) (hc : c < 61) : w.cell? ⟨g, i * 61 + c, none⟩ = L[c]? := by
  obtain ⟨hlt, he⟩ := List.getElem?_eq_some_iff.1 hi
  rw [Nat.mul_comm, h.cell i hlt c hc, he]
  simp
theorem MemL.setCell' {w : World} {g : Nat} {t : TypeId} {ls : List (List Value)} (h : MemL w g t ls) {i : Nat} (hi : i < ls.length) (c : Nat) (hc : c < 61) (u : Value) : MemL (w.setCell ⟨g, i * 61 + c, none⟩ u) g t (ls.set i (ls[i].set c u)) := by
  rw [Nat.mul_comm]
  exact h.setCell i hi c hc u
theorem zl_len : ZL.size = 61 := zl_size
theorem lv_z (k : Int) (e f : Bool) (n a : Int) : (LV k e f n a z56).size = 61 := LV_size _ _ _ _ _ z56_len
theorem ep_flip {n x : Int} (h : 2 ≤ n) : (ep n x == ep n (x + n)) = false := by
  have e : (x + n) / n = x / n + 1 := by rw [Int.add_ediv_of_dvd_right (Int.dvd_refl n), Int.ediv_self (by omega)]
  unfold ep
  rw [e]
  rcases (by omega : x / n % 2 = 0 ∨ x / n % 2 = 1) with h1 | h1
  · rw [h1, show (x / n + 1) % 2 = 1 by omega]; rfl
  · rw [h1, show (x / n + 1) % 2 = 0 by omega]; rfl
set_option maxRecDepth 100000 in
set_option maxHeartbeats 4000000 in
theorem law_fill (l s0 : Int) (hs0 : 0 ≤ s0) (hs1 : s0 < 18446744073709551616) (W : World) : Calls Try.prog 4 #[.int .i64 l, .int .u64 s0] W (True1 W) := by
  have p0 : 0 ≤ l % 6 := by omega
  have p1 : l % 6 ≤ 5 := by omega
  obtain ⟨B, hB⟩ : ∃ B : Nat, s0 / 8 = (B : Int) := ⟨(s0 / 8).toNat, by omega⟩
  have hB1 : B < 2305843009213693952 := by omega
  go_enter Try.func4, Try.ntmps4
  go_wp2_with fail
  refine (place _ _ (by omega) (by omega) _).mono ?_
  rintro e w' ⟨rfl, rfl⟩
  generalize l % 6 = p at *
  go_upto_region 2 with (fail)
  obtain ⟨n, hn, hvl, n0, n1⟩ := lines_of p p0 p1
  rw [hn]
  obtain ⟨N, rfl⟩ : ∃ N : Nat, n = (N : Int) := ⟨n.toNat, by omega⟩
  clear hn p0 p1
  go_upto_region 6 with ((at_make; refine wp_make_lines N ZL zl_len Try.underlying36 info_line rfl (by omega) (by omega) rfl rfl rfl rfl ?_; intro w1 m1 hb1))
  obtain ⟨rs1, rr1, hz1, hW1⟩ := two_new hb1
  have em : ((W.alloc (Obj.cells #[Value.int IntKind.i64 ↑N, Value.int IntKind.u64 ↑B, Value.int IntKind.u64 ↑B] 27)).alloc (Obj.cells #[Value.int IntKind.i64 ↑N, Value.int IntKind.u64 ↑B] 35)).heap.size = W.heap.size + 2 := by simp
  rw [em] at m1
  clear hb1 em hz1
  have hlen1 : (List.replicate N ZL.toList).length = N := by simp
  generalize List.replicate N ZL.toList = ls1 at *
  go_wp2
  go_loopw [10] (fun i wr => ∃ (k : Nat) (ls : List (List Value)), k ≤ N ∧ i = .int .i64 k ∧ MemL wr (W.heap.size + 2) 40 ls ∧ ls.length = N ∧ Row wr W.heap.size 27 #[.int .i64 N, .int .u64 B, .int .u64 B] ∧ Row wr (W.heap.size + 1) 35 #[.int .i64 N, .int .u64 B] ∧ Below W.heap.size W wr) (fun i _ => N - (intOf i).toNat)
  case atStart => exact ⟨0, ls1, by omega, rfl, m1, hlen1, rs1, rr1, hW1⟩
  case round =>
    obtain ⟨k, ls, hk, rfl, hM, hlen, rs, rr, hW⟩ := hrel
    clear m1 hlen1 rs1 rr1 hW1 ls1
    by_cases hkN : k < N
    · have hkl : k < ls.length := by omega
      go_upto_region 10 with (first
        | (go_at_call 24; refine (epoch_ref _ _ (by omega) (by omega) n0 n1 _).mono ?_; rintro e w' ⟨rfl, rfl⟩)
        | ((with_reducible refine wp_mem_store (L := LV 1 (!(ep N B)) false 0 0 z56) (off := k * 61) hM hkl (Nat.mul_comm k 61) (lv_z _ _ _ _ _) info40 (LV_one _ _ _ _ _ _) ?_ ?_ ?_); rfl; rfl; intro w2 u2 m2))
      have hl2 : (ls.set k (LV 1 (!(ep N B)) false 0 0 z56).toList).length = N := by simpa using hlen
      have hk2 : (ls.set k (LV 1 (!(ep N B)) false 0 0 z56).toList)[k]? = some (LV 1 (!(ep N B)) false 0 0 z56).toList := by simp [hkl]
      have rs2 := rs.upd u2 (by omega)
      have rr2 := rr.upd u2 (by omega)
      have hW2 := Upd.below hW u2 (by omega)
      generalize ls.set k (LV 1 (!(ep N B)) false 0 0 z56).toList = ls2 at *
      have cE : w2.cell? ⟨W.heap.size + 1 + 1, k * 61 + 1, none⟩ = some (.bool (!(ep N B))) := m2.cell' hk2 1 (by omega)
      have fE : w2.frozen? ⟨W.heap.size + 1 + 1, k * 61 + 1, none⟩ = false := m2.frozen _
      have hk3 : k < ls2.length := by omega
      clear hk2 rs rr hW u2 hM hlen hkl
      by_cases hq : k < B % N
      · go_wp2
        exact ⟨⟨k + 1, _, by omega, by go_num, m2.setCell' hk3 1 (by omega) _, by simpa using hl2, rs2.other (by simp; omega) _, rr2.other (by simp) _, hW2.setCell (by simp; omega) _⟩, by simp [intOf]; omega⟩
      · go_wp2
        exact ⟨⟨k + 1, _, by omega, by go_num, m2, hl2, rs2, rr2, hW2⟩, by simp [intOf]; omega⟩
    · obtain rfl : k = N := by omega
      go_upto_region 14 with (fail)
      have hMl := hM.lt
      obtain ⟨gu, hgu⟩ : ∃ gu, gu = wr.heap.size := ⟨_, rfl⟩
      rw [← hgu]
      rw [← hgu] at hMl
      have HGU := Lib.hid hgu
      clear hgu
      go_loopw [12] (fun i w2 => ∃ (q : Nat) (ls : List (List Value)) (cs : Array Value), q ≤ k ∧ i = .int .i64 q ∧ MemL w2 (W.heap.size + 2) 40 ls ∧ ls.length = k ∧ Hid (∀ j, j < q → ls[(B + j) % k]? = some (sentL k B j).toList) ∧
        Row w2 gu 41 cs ∧ Hid (cs.size = 64 ∧ ∀ j, q ≤ j → j < k → cs[(B + j) % k]? = some (.bool false)) ∧ Row w2 W.heap.size 27 #[.int .i64 k, .int .u64 ((B : Int) + q), .int .u64 B] ∧ Row w2 (W.heap.size + 1) 35 #[.int .i64 k, .int .u64 B] ∧ Below W.heap.size W w2) (fun i _ => k - (intOf i).toNat)
      case atStart =>
        refine ⟨0, ls, Array.replicate 64 (.bool false), by omega, rfl, hM.alloc _, hlen, Lib.hid (fun j h => by omega), HGU.out ▸ Row.born wr 41 _, Lib.hid ⟨by simp, fun j h1 h2 => ?_⟩, by simpa using rs.alloc _, rr.alloc _, hW.alloc hW.size _⟩
        have := Nat.mod_lt (B + j) (show 0 < k by omega)
        rw [Array.getElem?_replicate, if_pos (by omega)]
      case round =>
        clear hM hlen rs rr hW ls HGU
        obtain ⟨q, ls, cs, hq, rfl, hM, hlen, HS, ru, HU, rs, rr, hW⟩ := hrel
        obtain ⟨⟨c0, c1, c2⟩, f1⟩ := three_cells rs
        by_cases hqk : q < k
        · have hk64 : k ≤ 64 := by omega
          obtain ⟨r, hr⟩ : ∃ r, r = (B + q) % k := ⟨_, rfl⟩
          have hrk : r < k := by rw [hr]; exact Nat.mod_lt _ (by omega)
          have hri : Hid (((B : Int) + q) % k = (r : Int)) := Lib.hid (by rw [hr]; simp)
          have hu0 : cs[r]? = some (.bool false) := by rw [hr]; exact HU.out.2 q (Nat.le_refl _) hqk
          have HR := Lib.hid hr
          have hvs : vs k ((B : Int) + q) B = true := vs_mk ⟨hvl, n0, n1, by omega, by omega, by omega⟩
          have HV := Lib.hid hvs
          have hf : Hid ((fr k ((B : Int) + q) B == 0) = false) := Lib.hid (by simp [fr, hvs]; omega)
          have hbv : (#[Value.int .u8 (q : Int)] : Array Value) = ([UInt8.ofNat q].map bv).toArray := by
            simp [bv]
            omega
          have HBV := Lib.hid hbv
          clear hr hvs hbv
          go_wp2_with fail
          refine (send_ok k ((B : Int) + q) B 9 _ 1 1 true [UInt8.ofNat q] (by omega) (by omega) HV.out (by omega) hf.out (by omega) _ (by rw [HBV.out]; exact IsB.of_row (bs := [UInt8.ofNat q]) (Row.born wr 5 _))).mono ?_
          rintro e w2 ⟨rfl, hb⟩
          rw [hri.out]
          have hM := (hM.alloc _).below hb (by have := hM.lt; simp; omega)
          have rs := (rs.alloc _).below hb (by have := rs.lt; simp; omega)
          have rr := (rr.alloc _).below hb (by have := rr.lt; simp; omega)
          have ru := (ru.alloc _).below hb (by have := ru.lt; simp; omega)
          have hW := (hW.alloc hW.size _).trans (hb.mono (by have := hW.size; simp; omega))
          have hgl := ru.lt
          have hml := hM.lt
          clear c0 c1 c2 f1 hb HV hf HBV hri
          go_upto_region 17 with ((with_reducible refine wp_row_store (L := LV 1 (ep k ((B : Int) + q)) true ((1 : Nat) : Int) 9 ([UInt8.ofNat q] ++ z56.drop 1)) (Row.bornAt (g := w2.heap.size + 1) (by simp) _ _) ?_ (line_info _ _ _ _ _ (len_pay rfl (by omega))) (LV_one _ _ _ _ _ _) ?_ ?_ ?_); rfl; rfl; rfl; intro w3 u3 r3; have r4 : Row w3 w2.heap.size 27 #[.int .i64 k, .int .u64 ((B : Int) + q + 1), .int .u64 B] := ((Row.born w2 27 _).alloc _).upd u3 (by omega))
          have hpl : ([UInt8.ofNat q] ++ z56.drop 1).length = 56 := len_pay rfl (by omega)
          have hM := ((hM.alloc _).alloc _).upd u3 (by omega)
          have rs := ((rs.alloc _).alloc _).upd u3 (by omega)
          have rr := ((rr.alloc _).alloc _).upd u3 (by omega)
          have ru := ((ru.alloc _).alloc _).upd u3 (by omega)
          have hW := Upd.below ((hW.alloc hW.size _).alloc (by have := hW.size; simp; omega) _) u3 (by omega)
          have cU : w3.cell? ⟨gu, r, none⟩ = some (.bool false) := (ru.cell r).trans hu0
          have fU : w3.frozen? ⟨gu, r, none⟩ = false := ru.frozen r
          generalize w2.heap.size = gt at *
          clear hu0 u3
          go_upto_region 20 with (fail)
          have ru := ru.set r (.bool true)
          have hM := hM.other (p := ⟨gu, r, none⟩) (by simp; omega) (.bool true)
          have rs := rs.other (p := ⟨gu, r, none⟩) (by simp; omega) (.bool true)
          have rr := rr.other (p := ⟨gu, r, none⟩) (by simp; omega) (.bool true)
          have r3 := r3.other (p := ⟨gu, r, none⟩) (by simp; omega) (.bool true)
          have r4 := r4.other (p := ⟨gu, r, none⟩) (by simp; omega) (.bool true)
          have hW := hW.setCell (p := ⟨gu, r, none⟩) (by simp; omega) (.bool true)
          clear cU fU
          generalize w3.setCell ⟨gu, r, none⟩ (.bool true) = w4 at *
          have hrl : r < ls.length := by omega
          have hi4 := line_info 1 (ep k ((B : Int) + q)) true ((1 : Nat) : Int) 9 hpl
          go_upto_region 21 with (first
            | ((with_reducible refine wp_row_load r3 Try.underlying40 rfl hi4 ?_ ?_); rfl)
            | ((with_reducible refine wp_mem_store (L := LV 1 (ep k ((B : Int) + q)) true ((1 : Nat) : Int) 9 ([UInt8.ofNat q] ++ z56.drop 1)) (off := r * 61) hM hrl (Nat.mul_comm r 61) (LV_size _ _ _ _ _ hpl) info40 (LV_one _ _ _ _ _ _) ?_ ?_ ?_); rfl; rfl; intro w5 u5 m5))
          have rs := rs.upd u5 (by omega)
          have rr := rr.upd u5 (by omega)
          have ru := ru.upd u5 (by omega)
          have r4 := r4.upd u5 (by omega)
          have hW := Upd.below hW u5 (by omega)
          obtain ⟨⟨c0, c1, c2⟩, f1⟩ := three_cells rs
          obtain ⟨⟨d0, d1, d2⟩, f2⟩ := three_cells r4
          have HS2 : Hid (∀ j, j < q + 1 → (ls.set r (LV 1 (ep k ((B : Int) + q)) true ((1 : Nat) : Int) 9 ([UInt8.ofNat q] ++ z56.drop 1)).toList)[(B + j) % k]? = some (sentL k B j).toList) := Lib.hid (fun j hj => by
            by_cases hjq : j = q
            · subst hjq
              rw [← HR.out]
              simp [hrl, sentL]
            · rw [List.getElem?_set_ne (by rw [HR.out]; exact mod_ne (Ne.symm hjq) hqk (by omega))]
              exact HS.out j (by omega))
          have HU2 : Hid ((cs.setIfInBounds r (.bool true)).size = 64 ∧ ∀ j, q + 1 ≤ j → j < k → (cs.setIfInBounds r (.bool true))[(B + j) % k]? = some (.bool false)) := Lib.hid ⟨by simpa using HU.out.1, fun j h1 h2 => by
            rw [Array.getElem?_setIfInBounds_ne (by rw [HR.out]; exact mod_ne (by omega) hqk h2)]
            exact HU.out.2 j (by omega) h2⟩
          have hl5 : (ls.set r (LV 1 (ep k ((B : Int) + q)) true ((1 : Nat) : Int) 9 ([UInt8.ofNat q] ++ z56.drop 1)).toList).length = k := by simpa using hlen
          generalize ls.set r (LV 1 (ep k ((B : Int) + q)) true ((1 : Nat) : Int) 9 ([UInt8.ofNat q] ++ z56.drop 1)).toList = ls5 at *
          generalize cs.setIfInBounds r (.bool true) = cs5 at *
          clear HS HU HR hM r3 hi4 hlen u5
          have K1 := ((rs.set 0 (.int .i64 k)).set 1 (.int .u64 ((B : Int) + q + 1))).set 2 (.int .u64 B)
          have z1 : W.heap.size + 2 ≠ W.heap.size := by omega
          have z2 : gu ≠ W.heap.size := by omega
          have z3 : W.heap.size + 1 ≠ W.heap.size := by omega
          go_wp2
          exact ⟨⟨q + 1, ls5, cs5, by omega, by go_num, ((m5.other z1 _).other z1 _).other z1 _, hl5, HS2, ((ru.other z2 _).other z2 _).other z2 _, HU2, by rw [show (B : Int) + ((q + 1 : Nat) : Int) = (B : Int) + q + 1 by omega]; simpa using K1, ((rr.other z3 _).other z3 _).other z3 _, ((hW.setCell (Nat.le_refl _) _).setCell (Nat.le_refl _) _).setCell (Nat.le_refl _) _⟩, by simp [intOf]; omega⟩
        · obtain rfl : q = k := by omega
          clear HU ru cs
          have hvs : vs q ((B : Int) + q) B = true := vs_mk ⟨hvl, n0, n1, by omega, by omega, by omega⟩
          have HV := Lib.hid hvs
          have hf : Hid (fr q ((B : Int) + q) B = 0) := Lib.hid (by simp [fr, hvs]; omega)
          clear hvs
          go_wp2_with fail
          refine (send_full q ((B : Int) + q) B 0 none 0 0 true (by omega) (by omega) (by omega) HV.out (by omega) hf.out _).mono ?_
          rintro e w2 ⟨rfl, hb⟩
          have hM := hM.below hb hM.lt
          have rr := rr.below hb rr.lt
          have hW := hW.trans (hb.mono hW.size)
          have hml := hM.lt
          clear c0 c1 c2 f1 hb HV hf rs
          unfold ZS
          go_upto_region 26 with ((with_reducible refine wp_row_store (L := ZL) (Row.bornAt (g := w2.heap.size + 1) (by simp) _ _) ?_ zl_info zl_one ?_ ?_ ?_); rfl; rfl; rfl; intro w3 u3 r3)
          have hM := ((hM.alloc _).alloc _).upd u3 (by omega)
          have rr := ((rr.alloc _).alloc _).upd u3 (by omega)
          have hW := Upd.below ((hW.alloc hW.size _).alloc (by have := hW.size; simp; omega) _) u3 (by omega)
          clear u3 r3
          go_loopw [21] (fun i w4 => ∃ t : Nat, t ≤ q ∧ i = .int .i64 t ∧ MemL w4 (W.heap.size + 2) 40 ls ∧ Row w4 (W.heap.size + 1) 35 #[.int .i64 q, .int .u64 ((B : Int) + t)] ∧ Below W.heap.size W w4) (fun i _ => q - (intOf i).toNat)
          case atStart => exact ⟨0, by omega, rfl, hM, by simpa using rr, hW⟩
          case round =>
            clear hM rr hW
            obtain ⟨t, ht, rfl, hM, rr, hW⟩ := hrel
            obtain ⟨⟨c0, c1⟩, f1⟩ := two_cells rr
            by_cases htq : t < q
            · obtain ⟨r, hr⟩ : ∃ r, r = (B + t) % q := ⟨_, rfl⟩
              have hri : ((B : Int) + t) % q = (r : Int) := by rw [hr]; simp
              have hlr : ls[r]? = some (sentL q B t).toList := by rw [hr]; exact HS.out t htq
              have hpl : ([UInt8.ofNat t] ++ z56.drop 1).length = 56 := len_pay rfl (by omega)
              have HC := Lib.hid (poll_ok q ((B : Int) + t) (W.heap.size + 2) q ls r (ep q ((B : Int) + t)) true 1 9 ([UInt8.ofNat t] ++ z56.drop 1) wr (by omega) (by omega) hvl hM hlen hri hlr hpl (by simp) (by omega) (by omega) (by omega))
              clear hr hri hlr
              go_wp2_with fail
              refine HC.out.mono ?_
              rintro e w2 ⟨rfl, hb⟩
              have hM := hM.below hb hM.lt
              have rr := rr.below hb rr.lt
              have hW := hW.trans (hb.mono hW.size)
              have hml := hM.lt
              clear c0 c1 f1 hb HC
              go_upto_region 29 with ((with_reducible refine wp_row_store (L := LV 1 (ep q ((B : Int) + t)) true 1 9 ([UInt8.ofNat t] ++ z56.drop 1)) (Row.bornAt (g := w2.heap.size + 1) (by simp) _ _) ?_ (line_info _ _ _ _ _ hpl) (LV_one _ _ _ _ _ _) ?_ ?_ ?_); rfl; rfl; rfl; intro w3 u3 r3; have r4 : Row w3 w2.heap.size 35 #[.int .i64 q, .int .u64 ((B : Int) + t + 1)] := ((Row.born w2 35 _).alloc _).upd u3 (by omega))
              have hM := ((hM.alloc _).alloc _).upd u3 (by omega)
              have rr := ((rr.alloc _).alloc _).upd u3 (by omega)
              have hW := Upd.below ((hW.alloc hW.size _).alloc (by have := hW.size; simp; omega) _) u3 (by omega)
              generalize w2.heap.size = gt at *
              obtain ⟨d0, d1, d2, d3, d4⟩ := line_cells r3
              have d5 : w3.cell? ⟨gt + 1, 5, none⟩ = some (.int .u8 (t : Int)) := (r3.cell 5).trans (by simp [LV, bv]; omega)
              obtain ⟨⟨c0, c1⟩, f1⟩ := two_cells rr
              obtain ⟨⟨b0, b1⟩, f2⟩ := two_cells r4
              have K2 := (rr.set 0 (.int .i64 q)).set 1 (.int .u64 ((B : Int) + t + 1))
              have z1 : W.heap.size + 2 ≠ W.heap.size + 1 := by omega
              have ht64 : t < 64 := by omega
              clear u3 r3 r4
              go_wp2
              exact ⟨⟨t + 1, by omega, by go_num, (hM.other z1 _).other z1 _, by rw [show (B : Int) + ((t + 1 : Nat) : Int) = (B : Int) + t + 1 by omega]; simpa using K2, (hW.setCell (by simp) _).setCell (by simp) _⟩, by simp [intOf]; omega⟩
            · obtain rfl : t = q := by omega
              obtain ⟨r, hr⟩ : ∃ r, r = (B + t) % t := ⟨_, rfl⟩
              have hri : ((B : Int) + t) % t = (r : Int) := by rw [hr]; simp
              have hlr : ls[r]? = some (sentL t B 0).toList := by
                have h0 := HS.out 0 (by omega)
                rw [hr, Nat.add_mod_right]
                simpa using h0
              have hpl : ([UInt8.ofNat 0] ++ z56.drop 1).length = 56 := len_pay rfl (by omega)
              have he : (ep t ((B : Int) + (0 : Nat)) == ep t ((B : Int) + t)) = false := by
                have h := ep_flip (x := (B : Int)) n0
                simpa using h
              have HC := Lib.hid (poll_none t ((B : Int) + t) (W.heap.size + 2) t ls r (ep t ((B : Int) + (0 : Nat))) true ((1 : Nat) : Int) 9 ([UInt8.ofNat 0] ++ z56.drop 1) wr (by omega) (by omega) hvl hM hlen hri hlr hpl he)
              clear hr hri hlr he
              go_wp2_with fail
              refine HC.out.mono ?_
              rintro e w2 ⟨rfl, hb⟩
              have hW := hW.trans (hb.mono hW.size)
              clear c0 c1 f1 hb HC
              unfold ZR
              go_upto_region 33 with ((with_reducible refine wp_row_store (L := ZL) (Row.bornAt (g := w2.heap.size + 1) (by simp) _ _) ?_ zl_info zl_one ?_ ?_ ?_); rfl; rfl; rfl; intro w3 u3 r3)
              have hW := Upd.below ((hW.alloc hW.size _).alloc (by have := hW.size; simp; omega) _) u3 (by have := hW.size; omega)
              clear u3 r3
              go_wp2_with (go_at_call 23; refine (awake19 _).mono ?_; rintro e w5 ⟨rfl, hb5⟩)
              go_ret
              exact ⟨rfl, hW.trans (hb5.mono hW.size)⟩
theorem walk_fill (l s0 : Int) (_ : (Lit.int .i64 l).wf = true) (h1 : (Lit.int .u64 s0).wf = true) (W : World) : Calls Try.prog 4 #[.int .i64 l, .int .u64 s0] W (True1 W) :=
  law_fill l s0 (bounds_u64 h1).1 (by have := (bounds_u64 h1).2; omega) W
end Go.Proofs.Ythjkhambmgepdaa
