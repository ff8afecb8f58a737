/- Lines: decoded and encoded again; a line, slices of lines that came in. -/
import Derived.Test.YthjkhambmgepdaaDec
import Derived.Test.YthjkhambmgepdaaW1
import Derived.Test.YthjkhambmgepdaaLate
import Derived.Test.YthjkhambmgepdaaIsRow
import Derived.Deep.Fields
import Derived.Deep.SlicePairs
import Derived.Lib.SmallJoins
import Derived.OpenShut
import Derived.Test.YthjkhambmgepdaaLmem
namespace Go.Proofs.Ythjkhambmgepdaa
open Go
set_option linter.unusedVariables false
section
open Go.RowKit
theorem decode_enc {k : Int} {e f : Bool} {n a : Int} {p bs : List UInt8} (D : DecEnc k e f n a p bs) (A : Option Addr) (c : Nat) (W : World) (hA : IsB W A 64 bs) (hc : 64 ≤ c) : Calls Try.prog 32 #[.slice A 64 c] W (fun e' W' => e' = .returned (.tuple #[.agg (LV k e f n a p), .int .i64 0]) ∧ Below W.heap.size W W') :=
  (decode_line A 64 c bs W hA hc).mono (by
    rintro e' W' ⟨h1, hB⟩
    refine ⟨?_, hB⟩
    rw [h1, D.dc]
    unfold dcL
    rw [D.dc, if_pos rfl, D.k, D.e, D.f, D.n, D.a, D.p])
theorem decode_bad {bs : List UInt8} {E : Int} (h : dcE bs = E) (hE : E ≠ 0) (A : Option Addr) (n c : Nat) (W : World) (hA : IsB W A n bs) (hc : n ≤ c) : Calls Try.prog 32 #[.slice A n c] W (fun e' W' => e' = .returned (.tuple #[.agg ZL, .int .i64 E]) ∧ Below W.heap.size W W') :=
  (decode_line A n c bs W hA hc).mono (by
    rintro e' W' ⟨h1, hB⟩
    refine ⟨?_, hB⟩
    rw [h1, h]
    unfold dcL
    rw [h, if_neg hE])
theorem encq_yes (k : Int) (e f : Bool) (n a : Int) (p : List UInt8) (a0 : 0 ≤ a) (a1 : a < 65536) (hp : p.length = 56) (h : lnE k e f n p = 0) (W : World) : Calls Try.prog 31 #[.agg (LV k e f n a p)] W (fun e' W' => ∃ A c, e' = .returned (.tuple #[.slice A 64 c, .int .i64 0]) ∧ IsB W' A 64 (lnB k e f n a p) ∧ Below W.heap.size W W') :=
  (encode_ref k e f n a p a0 a1 hp W).mono (by
    rintro e' W' ⟨⟨h1, _⟩ | ⟨_, A, c, h2, h3⟩, hB⟩
    · exact absurd h h1
    · exact ⟨A, c, h2, h3, hB⟩)
theorem encq_no (k : Int) (e f : Bool) (n a : Int) (p : List UInt8) (E : Int) (a0 : 0 ≤ a) (a1 : a < 65536) (hp : p.length = 56) (h : lnE k e f n p = E) (hE : E ≠ 0) (W : World) : Calls Try.prog 31 #[.agg (LV k e f n a p)] W (EncNo E W) :=
  (encode_ref k e f n a p a0 a1 hp W).mono (by
    rintro e' W' ⟨⟨h1, h2⟩ | ⟨h1, _⟩, hB⟩
    · exact ⟨by rw [h2, h], hB⟩
    · exact absurd (h.symm.trans h1) hE)
section
variable {w : World} {dst : Option Tmp} {typ : TypeId} {pos : String} {after : Array Edge} {gd : Option (Nat × Bool)} {ev : Operand → Value}
theorem exec_str {x : Operand} {A : Option Addr} {n c : Nat} {bs : List UInt8} (h : IsB w A n bs) (hx : ev x = .slice A n c) : (execOp ev { dst := dst, op := .convert 44 9 x, type := typ, pos := pos, after := after, guard := gd }).run Try.prog w = .ok (.value (.string ⟨bs.toArray⟩)) w := by
  unfold execOp
  simp only [hx, Sem.run_bind, run_str (P := Try.prog) Try.underlying44 Try.underlying5 Try.underlying9 c h, Result.andThen_ok, Sem.run_pure]
variable {ops : Array Oper} {rest : List Oper} {Q : Exit → Act → World → Prop} {a : Act}
theorem wp_str_g {x : Operand} {A : Option Addr} {n c : Nat} {bs : List UInt8} (hg : Region.wanted { dst := dst, op := .convert 44 9 x, type := typ, pos := pos, after := after, guard := gd } (yielded ops a.tmps) = true) (h : IsB w A n bs) (hx : a.eval x = .slice A n c)
    (hk : wpList Try.prog ops Q rest (a.put dst (.string ⟨bs.toArray⟩)) w) : wpList Try.prog ops Q ({ dst := dst, op := .convert 44 9 x, type := typ, pos := pos, after := after, guard := gd } :: rest) a w := wp_told_g hg (exec_str h hx) hk
end
theorem OwnB.capN {w : World} {base : Nat} {e : TypeId} {A : Option Addr} {n c : Nat} {bs : List UInt8} (h : OwnB w base e A n c bs) : n ≤ c := by
  rcases h.2 with ⟨hv, h0⟩ | ⟨g, cap, cur, hv, _, _, h3, _⟩
  · omega
  · injection hv with _ _ h4
    omega
theorem u8_xor_nat (a b : Nat) (ha : a < 256) (hb : b < 256) : bits .xor .u8 (a : Int) (b : Int) = ((a ^^^ b : Nat) : Int) := by
  have hx : a ^^^ b < 2 ^ 8 := Nat.xor_lt_two_pow (by omega) (by omega)
  show IntKind.u8.wrap ((BitVec.ofInt 8 (a : Int) ^^^ BitVec.ofInt 8 (b : Int)).toNat : Int) = _
  rw [BitVec.toNat_xor, BitVec.ofInt_natCast, BitVec.ofInt_natCast, BitVec.toNat_ofNat, BitVec.toNat_ofNat, Nat.mod_eq_of_lt (by omega), Nat.mod_eq_of_lt (by omega), IntKind.wrap_u8]
  omega
theorem xor_byte (x : UInt8) (b : Int) (b0 : 0 ≤ b) (b1 : b < 256) : Value.int .u8 (bits .xor .u8 (x.toNat : Int) b) = bv (x ^^^ UInt8.ofNat b.toNat) := by
  obtain ⟨k, rfl⟩ := Int.eq_ofNat_of_zero_le b0
  rw [u8_xor_nat _ _ x.toNat_lt (by omega)]
  unfold bv
  rw [UInt8.toNat_xor, Int.toNat_natCast, u8_ofNat (by omega)]
theorem xor_ne (x : UInt8) (b : Int) (b0 : 0 < b) (b1 : b < 256) : x ^^^ UInt8.ofNat b.toNat ≠ x := by
  intro h
  have h1 := congrArg UInt8.toNat h
  rw [UInt8.toNat_xor, u8_ofNat (by omega)] at h1
  have h2 : x.toNat ^^^ (x.toNat ^^^ b.toNat) = 0 := by rw [h1, Nat.xor_self]
  rw [← Nat.xor_assoc, Nat.xor_self, Nat.zero_xor] at h2
  omega
theorem set_same (bs : List UInt8) (i : Nat) (h : i < bs.length) : bs.set i bs[i] = bs := by simp
/-- A block that holds bytes at its start, one of them written. -/
theorem isB_set {w : World} {g : Nat} {t : TypeId} {cur : Array Value} {n i : Nat} {bs : List UInt8} {y : UInt8} (hl : n = bs.length) (hi : i < n) (hs : n ≤ cur.size) (ht : cur.toList.take (n * 1) = bs.map bv) (h : Row w g t (cur.setIfInBounds i (bv y))) : IsB w (some ⟨g, 0, none⟩) n (bs.set i y) := by
  refine ⟨by rw [List.length_set]; exact hl, fun _ => ⟨g, 0, rfl, fun j hj => ?_⟩⟩
  have hj' : j < n := by rw [List.length_set] at hj; omega
  rw [Nat.zero_add, h.cell j]
  have e1 : (cur.setIfInBounds i (bv y)).toList.take n = (bs.set i y).map bv := by
    rw [Array.toList_setIfInBounds, List.take_set]
    rw [Nat.mul_one] at ht
    rw [ht, List.map_set]
  have e2 := congrArg (fun l => l[j]?) e1
  simp only [List.getElem?_take, if_pos hj', List.getElem?_map, List.getElem?_eq_getElem hj, Option.map_some, Array.getElem?_toList] at e2
  exact e2
end
section
open Go.RowKit
theorem is_oneb (w : World) (b : Int) (b0 : 0 ≤ b) (b1 : b < 256) : IsB (w.alloc (.cells #[.int .u8 b] 5)) (some ⟨w.heap.size, 0, none⟩) 1 [UInt8.ofNat b.toNat] := by
  rw [bv_int b0 b1]
  exact IsB.of_row (bs := [UInt8.ofNat b.toNat]) (Row.born w 5 _)
set_option maxRecDepth 100000 in
set_option maxHeartbeats 8000000 in
theorem law_lines_no (k : Int) (e f : Bool) (n a : Int) (p : List UInt8) (at_ by' : Int) (E : Int) (a0 : 0 ≤ a) (a1 : a < 65536) (hp : p.length = 56) (h : lnE k e f n p = E) (hE : E ≠ 0) (W : World) : Calls Try.prog 6 #[.agg (LV k e f n a p), .int .i64 at_, .int .u8 by'] W (True1 W) := by
  have H := Lib.hid h
  clear h
  have hB := (Below.refl W.heap.size W).alloc (Nat.le_refl _) (.cells (LV k e f n a p) 40)
  have r3 := Row.born W 40 (LV k e f n a p)
  go_enter Try.func6, Try.ntmps6
  go_upto_region 1 with (fail)
  generalize W.alloc (.cells (LV k e f n a p) 40) = w1 at *
  go_upto_region 2 with (first | ((with_reducible refine wp_load_g ?_ r3.range Try.underlying40 rfl (line_info _ _ _ _ _ hp) ?_ ?_); rfl; rfl) | (go_at_call 30; refine (encode_no k e f n a p E a0 a1 hp H.out hE _).mono ?_; rintro e' w2 ⟨rfl, hb2⟩))
  have r3 := r3.below hb2 r3.lt
  have hB2 := hB.trans (hb2.mono hB.size)
  clear hb2 hB
  go_upto_region 3 with (first | ((with_reducible refine wp_load_g ?_ r3.range Try.underlying40 rfl (line_info _ _ _ _ _ hp) ?_ ?_); rfl; rfl) | (go_at_call 31; refine (encq_no k e f n a p E a0 a1 hp H.out hE _).mono ?_; rintro e' w3 ⟨rfl, hb3⟩))
  have hB3 := hB2.trans (hb3.mono hB2.size)
  have e1 : (E != E) = false := by simp
  have e2 : (E != 0) = true := by simpa using hE
  have e3 : (E == 0) = false := by simpa using hE
  clear hb3 hB2 hE r3
  go_wp2_with (first | ((with_reducible refine wp_str_g (c := 0) ?_ (IsB.nil w3 none) ?_ ?_); rfl; rfl) | (go_at_call 23; refine (awake19 _).mono ?_; rintro e' w4 ⟨rfl, hb4⟩))
  go_ret
  exact ⟨rfl, hB3.trans (hb4.mono hB3.size)⟩
set_option maxRecDepth 100000 in
set_option maxHeartbeats 8000000 in
theorem law_lines_yes (k : Int) (e f : Bool) (n a : Int) (p : List UInt8) (at_ by' : Int) (a0 : 0 ≤ a) (a1 : a < 65536) (hp : p.length = 56) (h : lnE k e f n p = 0) (b0 : 0 ≤ by') (b1 : by' < 256) (W : World) : Calls Try.prog 6 #[.agg (LV k e f n a p), .int .i64 at_, .int .u8 by'] W (True1 W) := by
  have H := Lib.hid h
  have D := dec_enc h hp a0 a1
  obtain ⟨bs, hbs⟩ : ∃ bs, lnB k e f n a p = bs := ⟨_, rfl⟩
  rw [hbs] at D
  have HB := Lib.hid hbs
  have hlen := D.len
  clear h hbs
  obtain ⟨kk, hkk⟩ : ∃ kk : Nat, at_ % 64 = kk := ⟨(at_ % 64).toNat, by omega⟩
  have hk64 : kk < 64 := by omega
  have hB := (Below.refl W.heap.size W).alloc (Nat.le_refl _) (.cells (LV k e f n a p) 40)
  have r3 := Row.born W 40 (LV k e f n a p)
  go_enter Try.func6, Try.ntmps6
  go_upto_region 1 with (fail)
  generalize W.alloc (.cells (LV k e f n a p) 40) = w1 at *
  go_upto_region 2 with (first | ((with_reducible refine wp_load_g ?_ r3.range Try.underlying40 rfl (line_info _ _ _ _ _ hp) ?_ ?_); rfl; rfl) | (go_at_call 30; with_reducible refine (encode_yes k e f n a p a0 a1 hp H.out _).mono ?_; rintro e' w2 ⟨g7, hg7, rfl, q7, hb2⟩))
  rw [HB.out] at q7
  have r3 := r3.below hb2 r3.lt
  have hB2 := hB.trans (hb2.mono hB.size)
  clear hb2 hB
  go_upto_region 3 with (first | ((with_reducible refine wp_load_g ?_ r3.range Try.underlying40 rfl (line_info _ _ _ _ _ hp) ?_ ?_); rfl; rfl) | (go_at_call 31; with_reducible refine (encq_yes k e f n a p a0 a1 hp H.out _).mono ?_; rintro e' w3 ⟨A9, c9, rfl, hI9, hb3⟩))
  rw [HB.out] at hI9
  have q7 := q7.below hb3 q7.lt
  have r3 := r3.below hb3 r3.lt
  have hB3 := hB2.trans (hb3.mono hB2.size)
  have hI7 : IsB w3 (some ⟨g7, 0, none⟩) 64 bs := by
    have h := IsB.of_row q7
    rwa [hlen] at h
  clear hb3 hB2 q7
  have HL := Lib.hid hlen
  clear hlen
  go_upto_region 7 with (first | ((with_reducible refine wp_str_g (c := 64) ?_ hI7 ?_ ?_); rfl; rfl) | ((with_reducible refine wp_str_g (c := c9) ?_ hI9 ?_ ?_); rfl; rfl))
  clear hI9
  go_upto_region 8 with (first | (go_at_call 32; with_reducible refine (decode_enc D _ _ _ hI7 (Nat.le_refl _)).mono ?_; rintro e' w4 ⟨rfl, hb4⟩) | ((with_reducible refine wp_row_store (L := LV k e f n a p) (Row.bornAt (g := w4.heap.size) rfl 40 _) ?_ (line_info _ _ _ _ _ hp) (LV_one _ _ _ _ _ _) ?_ ?_ ?_); exact (LV_size _ _ _ _ _ hp).symm; rfl; rfl; intro w5 u5 r5))
  have hbz := Upd.below (hb4.trans (((Below.refl w4.heap.size w4).alloc (Nat.le_refl _) _).mono hb4.size)) u5 hb4.size
  have r3 := r3.below hbz r3.lt
  have hI7 := hI7.below hbz
  have hB5 := hB3.trans (hbz.mono hB3.size)
  have hg11 := hb4.size
  have hl11 := r5.lt
  generalize hgg : w4.heap.size = g11 at *
  clear hgg hbz hb4 u5 hB3
  have hki : (kk : Int) ≤ 64 := by omega
  have hk0 : 0 ≤ (kk : Int) := by omega
  have HKK := Lib.hid hkk
  clear hkk
  have hpre := hI7.pre kk (by omega)
  have hd1 := Lib.hid (dc_short (bs := bs.take kk) (by rw [List.length_take]; omega))
  go_upto_region 9 with (first | (go_at_call 20; refine (place _ _ (by omega) (by omega) _).mono ?_; rintro e' w' ⟨rfl, h9⟩; rw [← h9, HKK.out]; clear h9) | (go_at_call 32; with_reducible refine (decode_bad hd1.out (by decide) _ _ _ _ hpre (by omega)).mono ?_; rintro e' w6 ⟨rfl, hb6⟩) | ((with_reducible refine wp_row_store (L := ZL) (Row.bornAt (g := w6.heap.size) rfl 40 _) ?_ zl_info zl_one ?_ ?_ ?_); exact rfl; rfl; rfl; intro w7 u7 r7))
  have hbz := Upd.below (hb6.trans (((Below.refl w6.heap.size w6).alloc (Nat.le_refl _) _).mono hb6.size)) u7 hb6.size
  have r3 := r3.below hbz r3.lt
  have r11k := r5.below hbz r5.lt
  have hI7 := hI7.below hbz
  have hB7 := hB5.trans (hbz.mono hB5.size)
  clear hpre hd1 hbz hb6 u7 hB5 r5 r7
  go_upto_region 10 with (first | (at_builtin; (refine wp_append_b (P := Try.prog) rfl _ _ 44 rfl Try.underlying44 info_b (OwnB.nil w7 w7.heap.size 5) hI7 (by omega) (Nat.le_refl _) rfl rfl ?_); intro A1 n1 c1 w8 hn1 ho1 hb8 hg8 hat8) | (at_builtin; (refine wp_append_b (P := Try.prog) rfl _ _ 44 rfl Try.underlying44 info_b (ho1.alloc _) (is_oneb w8 by' b0 b1) (by have := hn1.out; omega) (by have := hb8.size; simp; omega) rfl rfl ?_); intro A2 n2 c2 w9 hn2 ho2 hb9 hg9 hat9; have hdl := Lib.hid (dc_long (bs := [] ++ bs ++ [UInt8.ofNat by'.toNat]) (by have := HL.out; simp; omega))) | (go_at_call 32; with_reducible refine (decode_bad hdl.out (by decide) _ _ _ _ ho2.isB ho2.capN).mono ?_; rintro e' w10 ⟨rfl, hb10⟩) | ((with_reducible refine wp_row_store (L := ZL) (Row.bornAt (g := w10.heap.size) rfl 40 _) ?_ zl_info zl_one ?_ ?_ ?_); exact rfl; rfl; rfl; intro w11 u11 r11))
  have x9 := (hb8.alloc hb8.size (.cells #[.int .u8 by'] 5)).trans hb9
  have x10 := x9.trans (hb10.mono x9.size)
  have hbz := Upd.below (x10.alloc x10.size _) u11 x10.size
  have r3 := r3.below hbz r3.lt
  have r11' := r11k.below hbz r11k.lt
  have r11 := r11'
  have hne11 := r11'.lt
  have hne3 := r3.lt
  have hI7 := hI7.below hbz
  have hB11 := hB7.trans (hbz.mono hB7.size)
  clear hbz x10 x9 hb10 u11 hb9 hb8 hB7 r11k r11' ho1 ho2 hdl hn1 hn2 hg8 hat8 hg9 hat9
  go_upto_region 11 with (at_builtin; (refine wp_append_b (P := Try.prog) rfl _ _ 44 rfl Try.underlying44 info_b (OwnB.nil w11 w11.heap.size 5) hI7 (by omega) (Nat.le_refl _) rfl rfl ?_); intro A3 n3 c3 w12 hn3 ho3 hb12 hg12 hat12)
  have hn3' := hn3.out
  rw [Nat.zero_add] at hn3'
  subst hn3'
  have hI12 : IsB w12 A3 64 bs := ho3.isB
  obtain ⟨g17, cap, cur, hA, hge, hrow, hcap, hcm, hcs, htk⟩ := ho3.big (by omega)
  have hc3 := ho3.capN
  subst hA
  have r3 := r3.below hb12 r3.lt
  have r11 := r11.below hb12 r11.lt
  have hB12 := hB11.trans (hb12.mono hB11.size)
  clear hg12 hat12 ho3 hn3 hI7
  have hkl : kk < bs.length := by have := HL.out; omega
  have ck := hI12.rng (by omega) kk (bv bs[kk]) (by simp [hkl])
  rw [Nat.zero_add] at ck
  have hxor := xor_byte bs[kk] by' b0 b1
  have hneq : 0 < by' → bs[kk] ^^^ UInt8.ofNat by'.toNat ≠ bs[kk] := fun h => xor_ne bs[kk] by' h b1
  have hsame : by' = 0 → bs.set kk (bs[kk] ^^^ UInt8.ofNat by'.toNat) = bs := fun h => by
    subst h
    have e0 : bs[kk] ^^^ UInt8.ofNat (0 : Int).toNat = bs[kk] := by
      apply UInt8.toNat_inj.1
      rw [UInt8.toNat_xor]
      simp
    rw [e0, set_same]
  have hchg : 0 < by' → dcE (bs.set kk (bs[kk] ^^^ UInt8.ofNat by'.toNat)) = 55 := fun h => dc_change D.len D.sum kk _ hkl (hneq h)
  unfold bv at ck
  generalize bs[kk] ^^^ UInt8.ofNat by'.toNat = y at *
  obtain ⟨X, hX⟩ : ∃ X : Int, (bs[kk].toNat : Int) = X := ⟨_, rfl⟩
  rw [hX] at ck hxor
  clear hX hneq
  have HXOR := Lib.hid hxor
  clear hxor
  have cf := hrow.frozen
  have hkd : decide (kk < 64) = true := by simpa using hk64
  have hki2 : (kk : Int) < 64 := by omega
  go_upto_region 12 with (go_at_call 20; refine (place _ _ (by omega) (by omega) _).mono ?_; rintro e' w' ⟨rfl, h9⟩; rw [← h9, HKK.out]; clear h9)
  rw [HXOR.out]
  have hrow := hrow.set kk (bv y)
  have u13 := Upd.setCell w12 g17 kk (bv y)
  have hI13 := isB_set HL.out.symm hk64 (by omega) htk hrow
  have r3 := r3.upd u13 (by omega)
  have r11 := r11.upd u13 (by omega)
  have hB13 := Upd.below hB12 u13 (by omega)
  generalize w12.setCell ⟨g17, kk, none⟩ (bv y) = w13 at *
  have hcap64 : 64 ≤ c3 := hc3
  clear ck cf hkd hki2 hrow u13 hB12 htk hcs hcm hge hI12
  have HEQ : ∀ w : World, (Op.equalIn 10000 40 (.agg (LV k e f n a p)) (.agg (LV k e f n a p))).run Try.prog w = .ok true w := fun w => by rw [eq_line w k k e e f f n n a a p p hp hp]; simp
  by_cases hz : by' = 0
  · have hz1 : (by' == 0) = true := by simpa using hz
    rw [hsame hz] at hI13
    clear hsame hchg hz
    go_upto_region 13 with (first | (go_at_call 32; with_reducible refine (decode_enc D _ _ _ hI13 hcap64).mono ?_; rintro e' w14 ⟨rfl, hb14⟩) | ((with_reducible refine wp_row_store (L := LV k e f n a p) (Row.bornAt (g := w14.heap.size) rfl 40 _) ?_ (line_info _ _ _ _ _ hp) (LV_one _ _ _ _ _ _) ?_ ?_ ?_); exact (LV_size _ _ _ _ _ hp).symm; rfl; rfl; intro w15 u15 r15))
    have hbz := Upd.below (hb14.trans (((Below.refl w14.heap.size w14).alloc (Nat.le_refl _) _).mono hb14.size)) u15 hb14.size
    have r3 := r3.below hbz r3.lt
    have r11 := r11.below hbz r11.lt
    have hB15 := hB13.trans (hbz.mono hB13.size)
    clear hbz hb14 u15 hB13 hI13 r15
    go_wp2_with (first | ((with_reducible refine wp_load_g ?_ r3.range Try.underlying40 rfl (line_info _ _ _ _ _ hp) ?_ ?_); rfl; rfl) | ((with_reducible refine wp_load_g ?_ r11.range Try.underlying40 rfl (line_info _ _ _ _ _ hp) ?_ ?_); rfl; rfl) | ((with_reducible refine wp_eql_g ?_ guard40 (HEQ _) ?_ ?_ ?_); rfl; rfl; rfl) | (go_at_call 23; refine (awake19 _).mono ?_; rintro e' w16 ⟨rfl, hb16⟩))
    go_ret
    exact ⟨rfl, hB15.trans (hb16.mono hB15.size)⟩
  · have hz1 : (by' == 0) = false := by simpa using hz
    have HCH := Lib.hid (hchg (by omega))
    clear hsame hchg hz
    go_upto_region 13 with (first | (go_at_call 32; with_reducible refine (decode_bad HCH.out (by decide) _ _ _ _ hI13 hcap64).mono ?_; rintro e' w14 ⟨rfl, hb14⟩) | ((with_reducible refine wp_row_store (L := ZL) (Row.bornAt (g := w14.heap.size) rfl 40 _) ?_ zl_info zl_one ?_ ?_ ?_); exact rfl; rfl; rfl; intro w15 u15 r15))
    have hbz := Upd.below (hb14.trans (((Below.refl w14.heap.size w14).alloc (Nat.le_refl _) _).mono hb14.size)) u15 hb14.size
    have r3 := r3.below hbz r3.lt
    have r11 := r11.below hbz r11.lt
    have hB15 := hB13.trans (hbz.mono hB13.size)
    clear hbz hb14 u15 hB13 hI13 r15
    go_wp2_with (first | ((with_reducible refine wp_load_g ?_ r3.range Try.underlying40 rfl (line_info _ _ _ _ _ hp) ?_ ?_); rfl; rfl) | ((with_reducible refine wp_load_g ?_ r11.range Try.underlying40 rfl (line_info _ _ _ _ _ hp) ?_ ?_); rfl; rfl) | ((with_reducible refine wp_eql_g ?_ guard40 (HEQ _) ?_ ?_ ?_); rfl; rfl; rfl) | (go_at_call 23; refine (awake19 _).mono ?_; rintro e' w16 ⟨rfl, hb16⟩))
    go_ret
    exact ⟨rfl, hB15.trans (hb16.mono hB15.size)⟩
theorem law_lines (k : Int) (e f : Bool) (n a : Int) (p : List UInt8) (at_ by' : Int) (a0 : 0 ≤ a) (a1 : a < 65536) (hp : p.length = 56) (b0 : 0 ≤ by') (b1 : by' < 256) (W : World) : Calls Try.prog 6 #[.agg (LV k e f n a p), .int .i64 at_, .int .u8 by'] W (True1 W) := by
  by_cases h : lnE k e f n p = 0
  · exact law_lines_yes k e f n a p at_ by' a0 a1 hp h b0 b1 W
  · exact law_lines_no k e f n a p at_ by' _ a0 a1 hp rfl h W
end
section
open Go.RowKit Go.Deep Go.ChangeShapes Go.WideShapes
theorem cells3L : Try.prog.cellsOf 3 = 1 := by kernel_rfl
theorem cells4L : Try.prog.cellsOf 4 = 1 := by kernel_rfl
theorem cells23L : Try.prog.cellsOf 23 = 1 := by kernel_rfl
theorem cells40L : Try.prog.cellsOf 40 = 61 := by kernel_rfl
section
variable {H : Type} {enc : TypeId × Value → H} {W : World} {base : Nat} {spare : Nat → Bool} {held : Bool}
theorem wf_u16L {n : Int} (h : (Lit.int .u16 n).wf = true) : 0 ≤ n ∧ n < 65536 := by
  simp [Lit.wf, IntKind.min, IntKind.max, IntKind.bits, IntKind.signed] at h
  omega
theorem bytes_of {m : Nat} {l : List Value} {y : DataW H × List MemPlace} (h : DataW.trod enc Try.prog W base spare held m 38 l = some y) : ∃ p : List UInt8, p.length = 56 ∧ l = p.map bv := by
  obtain ⟨xs, k, _, _, hlen, hxl, hf⟩ := DataW.trod_array Try.underlying38 h
  rw [cells38] at hlen
  rw [cells5] at hf
  have each : ∀ i, i < 56 → ∃ x : UInt8, l[i]? = some (bv x) := by
    intro i hi
    have h1 := hf i hi
    rw [List.getElem?_eq_getElem (by omega)] at h1
    obtain ⟨z, e1, _, w1⟩ := DataW.trod_int Try.underlying5 h1
    obtain ⟨z0, z1⟩ := wf_u8 w1
    have h2 : l[i]? = some (.int .u8 z) := by
      have h3 := congrArg (fun q => q[0]?) e1
      simp only [List.getElem?_take, List.getElem?_drop] at h3
      simpa using h3
    exact ⟨UInt8.ofNat z.toNat, by rw [h2, bv_int z0 z1]⟩
  obtain ⟨q, hq⟩ := choose_lt each
  refine ⟨(List.range 56).map q, by simp, ?_⟩
  apply List.ext_getElem?
  intro i
  rcases Nat.lt_or_ge i 56 with hi | hi
  · rw [hq i hi]
    simp [hi]
  · rw [List.getElem?_eq_none (by omega), List.getElem?_eq_none (by simp; omega)]
set_option maxRecDepth 100000 in
theorem line_of {n : Nat} {cs : List Value} {y : DataW H × List MemPlace} (h : DataW.trod enc Try.prog W base spare held n 40 cs = some y) :
    ∃ (k : Int) (e f : Bool) (m a : Int) (p : List UInt8), cs = (LV k e f m a p).toList ∧ p.length = 56 ∧ 0 ≤ a ∧ a < 65536 := by
  obtain ⟨xs, k, _, _, hlen, hxl, hf⟩ := DataW.trod_struct Try.underlying40 h
  rw [cells40L] at hlen
  match xs, hxl, cs, hlen with
  | [x0, x1, x2, x3, x4, x5], _, c0 :: c1 :: c2 :: c3 :: c4 :: r, hlen =>
    have g0 := hf 0 _ rfl
    have g1 := hf 1 _ rfl
    have g2 := hf 2 _ rfl
    have g3 := hf 3 _ rfl
    have g4 := hf 4 _ rfl
    have g5 := hf 5 _ rfl
    simp [cells3L, cells4L, cells23L, cells38] at g0 g1 g2 g3 g4 g5
    obtain ⟨z0, e0, _, _⟩ := DataW.trod_int Try.underlying3 g0
    obtain ⟨z1, e1, _⟩ := DataW.trod_bool Try.underlying4 g1
    obtain ⟨z2, e2, _⟩ := DataW.trod_bool Try.underlying4 g2
    obtain ⟨z3, e3, _, _⟩ := DataW.trod_int Try.underlying3 g3
    obtain ⟨z4, e4, _, w4⟩ := DataW.trod_int Try.underlying23 g4
    have hr : r.take 56 = r := List.take_of_length_le (by simp at hlen; omega)
    rw [hr] at g5
    obtain ⟨p, hp, e5⟩ := bytes_of g5
    simp only [List.cons.injEq, and_true] at e0 e1 e2 e3 e4
    obtain ⟨a0, a1⟩ := wf_u16L w4
    exact ⟨z0, z1, z2, z3, z4, p, by rw [e0, e1, e2, e3, e4, e5]; rfl, hp, a0, a1⟩
set_option maxRecDepth 100000 in
theorem open_line {rc : Reach} {b0 : Nat} {v : Value} {d : DataW H} {p : List MemPlace} (hv : Value.okWide Try.prog W rc b0 40 v) (h : DataW.Trod enc Try.prog W base spare held 40 v d p) :
    ∃ (k : Int) (e f : Bool) (m a : Int) (q : List UInt8), v = .agg (LV k e f m a q) ∧ q.length = 56 ∧ 0 ≤ a ∧ a < 65536 := by
  obtain ⟨cs, rfl, hsz⟩ := okWide_struct Try.underlying40 hv
  obtain ⟨fuel, hf⟩ := h
  obtain ⟨k, e, f, m, a, q, h1, h2, h3⟩ := line_of hf
  refine ⟨k, e, f, m, a, q, ?_, h2, h3⟩
  have h4 : cs.toList = (LV k e f m a q).toList := h1
  rw [Array.toList_inj.1 h4]
end
theorem walk_lines (k : Int) (e f : Bool) (n a : Int) (p : List UInt8) (at_ by' : Int) (hp : p.length = 56 ∧ 0 ≤ a ∧ a < 65536) (_ : (Lit.int .i64 at_).wf = true) (hb : (Lit.int .u8 by').wf = true) (W : World) : Calls Try.prog 6 #[.agg (LV k e f n a p), .int .i64 at_, .int .u8 by'] W (True1 W) :=
  law_lines k e f n a p at_ by' hp.2.1 hp.2.2 hp.1 (wf_u8 hb).1 (wf_u8 hb).2 W
end
section
open Go.RowKit Go.Deep Go.ChangeShapes Go.WideShapes
/-- A line. -/
structure Ln where
  (k : Int) (e f : Bool) (n a : Int) (p : List UInt8)
instance : Inhabited Ln := ⟨⟨0, false, false, 0, 0, z56⟩⟩
def Ln.v (l : Ln) : Array Value := LV l.k l.e l.f l.n l.a l.p
def Ln.ok (l : Ln) : Prop := l.p.length = 56 ∧ 0 ≤ l.a ∧ l.a < 65536
theorem Ln.size {l : Ln} (h : l.ok) : l.v.toList.length = 61 := by have := LV_size l.k l.e l.f l.n l.a h.1; simpa [Ln.v] using this
/-- The slice at A of n lines reads in w as ls. -/
def IsLs (w : World) (A : Option Addr) (n : Nat) (ls : List Ln) : Prop :=
  n = ls.length ∧ (∀ l ∈ ls, l.ok) ∧ (0 < n → ∃ b o, A = some ⟨b, o, none⟩ ∧ ∀ i (h : i < ls.length), ∀ j v, ls[i].v.toList[j]? = some v → w.cell? ⟨b, o + i * 61 + j, none⟩ = some v)
theorem IsLs.below {w w' : World} {A : Option Addr} {n : Nat} {ls : List Ln} (h : IsLs w A n ls) (hb : Below w.heap.size w w') : IsLs w' A n ls := by
  refine ⟨h.1, h.2.1, fun hn => ?_⟩
  obtain ⟨b, o, e, hc⟩ := h.2.2 hn
  exact ⟨b, o, e, fun i hi j v hv => (hb.cell (p := ⟨b, o + i * 61 + j, none⟩) (block_lt_of_cell (hc i hi j v hv))).trans (hc i hi j v hv)⟩
/-- Line i, as a range of cells. -/
theorem IsLs.at_ {w : World} {A : Option Addr} {n : Nat} {ls : List Ln} (h : IsLs w A n ls) (i : Nat) (hi : i < n) : ∃ b o l, A = some ⟨b, o, none⟩ ∧ ls[i]? = some l ∧ l.ok ∧ w.rangeAt b (o + i * 61) l.v.toList := by
  obtain ⟨hn, hk, hp⟩ := h
  obtain ⟨b, o, e, hc⟩ := hp (by omega)
  have hl : i < ls.length := by omega
  exact ⟨b, o, ls[i], e, List.getElem?_eq_getElem hl, hk _ (List.getElem_mem hl), fun j v hv => hc i hl j v hv⟩
def lsC (ls : List Ln) : List Value := ls.flatMap fun l => l.v.toList
theorem lsC_len : ∀ ls : List Ln, (∀ l ∈ ls, l.ok) → (lsC ls).length = ls.length * 61
  | [], _ => rfl
  | m :: r, hk => by
    have h := lsC_len r fun l hl => hk l (List.mem_cons_of_mem _ hl)
    have e : lsC (m :: r) = m.v.toList ++ lsC r := rfl
    rw [e, List.length_append, h, Ln.size (hk m (List.mem_cons_self ..)), List.length_cons]
    omega
theorem lsC_at : ∀ (ls : List Ln) (_ : ∀ l ∈ ls, l.ok) (i j : Nat) (hi : i < ls.length), j < 61 → (lsC ls)[i * 61 + j]? = ls[i].v.toList[j]?
  | m :: r, hk, 0, j, hi, hj => by
    have e : lsC (m :: r) = m.v.toList ++ lsC r := rfl
    rw [e, List.getElem?_append_left (by rw [Ln.size (hk m (List.mem_cons_self ..))]; omega)]
    simp
  | m :: r, hk, i + 1, j, hi, hj => by
    have e : lsC (m :: r) = m.v.toList ++ lsC r := rfl
    have hm := Ln.size (hk m (List.mem_cons_self ..))
    rw [e, List.getElem?_append_right (by rw [hm]; omega), hm]
    have h := lsC_at r (fun l hl => hk l (List.mem_cons_of_mem _ hl)) i j (by simpa using hi) hj
    rw [show (i + 1) * 61 + j - 61 = i * 61 + j by omega, h]
    simp
theorem lsC_one (ls : List Ln) : ∀ u ∈ lsC ls, u.oneCell' = true := by
  intro u hu
  obtain ⟨m, _, hm⟩ := List.mem_flatMap.1 hu
  have h := LV_one m.k m.e m.f m.n m.a m.p
  rw [Array.all_eq_true'] at h
  exact h u (by simpa [Ln.v] using hm)
theorem IsLs.src {w : World} {A : Option Addr} {n : Nat} {ls : List Ln} (h : IsLs w A n ls) (hn : 0 < n) : ∃ ad, A = some ad ∧ ∀ j u, (lsC ls)[j]? = some u → w.cell? (ad.add j) = some u := by
  obtain ⟨b, o, e, hc⟩ := h.2.2 hn
  refine ⟨⟨b, o, none⟩, e, fun j u hu => ?_⟩
  have hj : j < ls.length * 61 := by
    have := (List.getElem?_eq_some_iff.1 hu).1
    rwa [lsC_len _ h.2.1] at this
  have hi : j / 61 < ls.length := by omega
  have h6 : j / 61 * 61 + j % 61 = j := by omega
  have h1 := lsC_at ls h.2.1 (j / 61) (j % 61) hi (by omega)
  rw [h6, hu] at h1
  rw [Addr.add_mid]
  have h2 := hc (j / 61) hi (j % 61) u h1.symm
  rwa [Nat.add_assoc, h6] at h2
theorem isLs_own {w : World} {base b : Nat} {e : TypeId} {n c : Nat} {ls : List Ln} (hk : ∀ l ∈ ls, l.ok) (h : w.ownsRow base e 61 (.slice (some ⟨b, 0, none⟩) n c) n (lsC ls)) : IsLs w (some ⟨b, 0, none⟩) n ls := by
  have hl : n = ls.length := by have := h.1; rw [lsC_len _ hk] at this; omega
  refine ⟨hl, hk, fun _ => ⟨b, 0, rfl, fun i hi j v hv => ?_⟩⟩
  have hj : j < 61 := by have := (List.getElem?_eq_some_iff.1 hv).1; rwa [Ln.size (hk _ (List.getElem_mem hi))] at this
  rw [Nat.zero_add, World.ownsRow.cellAt h (i * 61 + j) (by omega), lsC_at ls hk i j hi hj]
  exact hv
theorem isLs_at {w wx : World} {b : Nat} {n : Nat} {ls : List Ln} (h : IsLs w (some ⟨b, 0, none⟩) n ls) (hx : ∀ i, wx.cell? ⟨b, i, none⟩ = w.cell? ⟨b, i, none⟩) : IsLs wx (some ⟨b, 0, none⟩) n ls := by
  refine ⟨h.1, h.2.1, fun hn => ?_⟩
  obtain ⟨b', o, e, hc⟩ := h.2.2 hn
  injection e with e
  injection e with e1 e2 e3
  subst e1 e2
  exact ⟨b, 0, rfl, fun i hi j v hv => (hx _).trans (hc i hi j v hv)⟩
theorem info_ln : (Try.prog.info? 40).map (fun i => (i.zero, i.size, i.bytes)) = some (some (.agg ZL), 61, 88) := by kernel_rfl
theorem IsLs.keep {w wx : World} {A : Option Addr} {n : Nat} {ls : List Ln} {base : Nat} (h : IsLs w A n ls) (hA : ∀ b o, A = some ⟨b, o, none⟩ → 0 < n → base ≤ b) (hx : ∀ k, base ≤ k → wx.heap[k]? = w.heap[k]?) : IsLs wx A n ls := by
  refine ⟨h.1, h.2.1, fun hn => ?_⟩
  obtain ⟨b, o, e, hc⟩ := h.2.2 hn
  exact ⟨b, o, e, fun i hi j v hv => (World.cell?_of_block (w := w) (hx b (hA b o e hn))).trans (hc i hi j v hv)⟩
/-- A slice of lines appended to nil: the copy. -/
theorem run_copy_ls {P : Program} {w : World} {t e typ : TypeId} {zv : Value} {bytes n c : Nat} {B : Option Addr} {ls : List Ln} (ht : P.underlying t = some (.slice e)) (hinfo : (P.info? e).map (fun i => (i.zero, i.size, i.bytes)) = some (some zv, 61, bytes)) (hzs : zv.cells.size = 61) (hby : bytes ≤ 1000)
    (hB : IsLs w B n ls) (hn : n ≤ 1000) : ∃ A' c'' w', (Builtin.append_ #[t, t] typ #[.slice none 0 0, .slice B n c]).run P w = .ok (.slice A' n c'') w' ∧ IsLs w' A' n ls ∧ Below w.heap.size w w' := by
  obtain ⟨i, hi, hz⟩ := Option.map_eq_some_iff.1 hinfo
  simp only [Prod.mk.injEq] at hz
  obtain ⟨hz0, hz1, hz2⟩ := hz
  rcases Nat.eq_zero_or_pos n with h0 | h0
  · subst h0
    refine ⟨none, 0, w, ?_, ⟨hB.1, hB.2.1, fun h => absurd h (by omega)⟩, Below.refl _ _⟩
    cases B <;> simp [Builtin.append_, run_underlying ht, sizeOf, typeInfo, hi, Builtin.lenOf, Builtin.firstCells, loadCells, loadCellsFrom]
  · obtain ⟨ad, rfl, hsrc⟩ := hB.src h0
    obtain ⟨v', w', hr, h2, h3, h4, h5⟩ := run_append_own_at (P := P) w w.heap.size t typ e i zv 61 bytes ht hi hz0 hz1 hz2 hzs (by omega) (.slice none 0 0) 0 [] (World.ownsRow_nil w w.heap.size e 61) ad n c (lsC ls)
      (by rw [lsC_len _ hB.2.1, ← hB.1]) hsrc (lsC_one ls) (by simp only [maxLen]; omega) (by rw [Nat.zero_add]; exact Nat.le_trans (Nat.mul_le_mul hn hby) (by omega)) (Nat.le_refl _)
    rw [Nat.zero_add, List.nil_append] at h2
    rcases h2.2 with ⟨rfl, hn0⟩ | ⟨g, cap, cur, rfl, rest'⟩
    · omega
    · exact ⟨_, _, _, hr, isLs_own hB.2.1 h2, (Below.refl _ _).grown h3 (Nat.le_refl _) (fun k hk => by cases hk)⟩
section
variable {P : Program} {ops : Array Oper} {rest : List Oper} {Q : Exit → Act → World → Prop} {a : Act} {w : World} {dst : Option Tmp} {typ : TypeId} {pos : String} {after : Array Edge}
theorem wp_copy_ls {s x : Operand} {t e : TypeId} {zv : Value} {bytes n c : Nat} {B : Option Addr} {ls : List Ln} (ht : P.underlying t = some (.slice e)) (hinfo : (P.info? e).map (fun i => (i.zero, i.size, i.bytes)) = some (some zv, 61, bytes)) (hzs : zv.cells.size = 61) (hby : bytes ≤ 1000)
    (hB : IsLs w B n ls) (hn : n ≤ 1000) (hs : a.eval s = .slice none 0 0) (hx : a.eval x = .slice B n c)
    (h : ∀ A' c' w', IsLs w' A' n ls → Below w.heap.size w w' → wpList P ops Q rest (a.put dst (.slice A' n c')) w') :
    wpList P ops Q ({ dst := dst, op := .call { callee := .builtin .append, args := #[s, x], argTypes := #[t, t] }, type := typ, pos := pos, after := after, guard := none } :: rest) a w := by
  obtain ⟨A', c'', w', hr, h2, h3⟩ := run_copy_ls (P := P) (typ := typ) (c := c) ht hinfo hzs hby hB hn
  refine wpList_plain rfl fun K hK => ?_
  unfold Oper.wp execOp
  simp only [resolve, invoke, builtin, Sem.run_bind, Sem.run_pure, Result.andThen_ok, List.map_toArray, List.map_cons, List.map_nil, hs, hx, hr]
  exact hK _ _ (h _ _ _ h2 h3)
/-- Line i, loaded. -/
theorem wp_ls_load {ty : TypeId} {x : Operand} {b off : Nat} {l : Ln} {d : TypeDesc} (hr : w.rangeAt b off l.v.toList) (hk : l.ok) (hu : P.underlying ty = some d) (hd : d.isRow = true)
    (hn : (P.info? ty).map (·.size) = some 61) (hx : a.eval x = .pointer (some ⟨b, off, none⟩)) (h : wpList P ops Q rest (a.put dst (.agg l.v)) w) :
    wpList P ops Q ({ dst := dst, op := .load ty x, type := typ, pos := pos, after := after, guard := none } :: rest) a w :=
  wpList_load_mid (op := { dst := dst, op := .load ty x, type := typ, pos := pos, after := after, guard := none }) rfl ty x rfl b off hx l.v.toList d hr hu hd (by rw [Ln.size hk]; exact hn) (by simpa using h)
end
section
variable {H : Type} {enc : TypeId × Value → H} {W : World} {base : Nat} {spare : Nat → Bool} {held : Bool}
theorem open_lines {fuel : Nat} {v : Value} {x : DataW H × List MemPlace} (h : DataW.trod enc Try.prog W base spare held fuel 36 [v] = some x) : ∃ A n c ls, v = .slice A n c ∧ IsLs W A n ls := by
  rcases open_slice Try.underlying36 h with ⟨hcs, _⟩ | ⟨a, len, cap, m, n, D, Pl, hcs, _, hl, hm, hmm, _, hall⟩
  · simp only [List.cons.injEq, and_true] at hcs
    exact ⟨none, 0, 0, [], hcs, rfl, (fun l hl => by cases hl), fun h => absurd h (by omega)⟩
  · simp only [List.cons.injEq, and_true] at hcs
    have hlm : len ≤ m := by rw [hmm]; split <;> omega
    rw [cells40L] at hall
    have each : ∀ i, i < len → ∃ q : Ln, q.ok ∧ ∀ j v, q.v.toList[j]? = some v → W.cell? (a.add (i * 61 + j)) = some v := by
      intro i hi
      obtain ⟨cs', h1, h2⟩ := hall i (by omega)
      obtain ⟨k', e', f', m', a', p', rfl, h3, h4, h5⟩ := line_of h2
      obtain ⟨_, hlen, hcell⟩ := World.cells?_some h1
      have hok : (Ln.mk k' e' f' m' a' p').ok := ⟨h3, h4, h5⟩
      refine ⟨⟨k', e', f', m', a', p'⟩, hok, fun j v hv => ?_⟩
      have hj : j < 61 := by have := (List.getElem?_eq_some_iff.1 hv).1; rwa [Ln.size hok] at this
      have h3 := hcell j hj
      rw [add_add] at h3
      rw [h3]
      exact hv
    obtain ⟨q, hq⟩ := choose_lt each
    refine ⟨some a, len, cap, (List.range len).map q, hcs, by simp, ?_, fun h0 => ?_⟩
    · intro l hl
      obtain ⟨i, hi, rfl⟩ := List.mem_map.1 hl
      exact (hq i (by simpa using hi)).1
    obtain ⟨b, o, spot⟩ := a
    have hspot : spot = none := by
      have h9 := (hq 0 h0).2 0 (.int .i64 (q 0).k) rfl
      simpa [Addr.add] using World.cell?_spot h9
    subst hspot
    refine ⟨b, o, rfl, fun i hi j v hv => ?_⟩
    have hi' : i < len := by simpa using hi
    have h4 := (hq i hi').2 j v (by simpa using hv)
    rw [Addr.add_mid, ← Nat.add_assoc] at h4
    exact h4
end
end
end Go.Proofs.Ythjkhambmgepdaa
