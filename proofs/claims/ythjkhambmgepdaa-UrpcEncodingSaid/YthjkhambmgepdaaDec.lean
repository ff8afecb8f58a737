/- Lines: DecodeLine. -/
import Derived.Test.YthjkhambmgepdaaEncq
import Derived.Test.YthjkhambmgepdaaUint
import Derived.Test.YthjkhambmgepdaaR2
namespace Go.Proofs.Ythjkhambmgepdaa
open Go.RowKit
set_option linter.unusedVariables false
theorem results_ct {P : Program} {fn : Func} {p u : Tmp} {ty1 : TypeId} {d1 : TypeDesc} (h : fn.results = #[.cell p ty1, .tmp u]) {tmps : Array Value} {w : World} {g1 : Nat} {t1 : TypeId} {cs1 : Array Value}
    (h1 : tmps.getD p undef = .pointer (some ⟨g1, 0, none⟩)) (r1 : Row w g1 t1 cs1) (u1 : P.underlying ty1 = some d1) (k1 : d1.isRow = true) (i1 : (P.info? ty1).map (·.size) = some cs1.size) :
    (results fn tmps).run P w = .ok (.tuple #[.agg cs1, tmps.getD u undef]) w := by
  have l1 := run_loadVar_mid (P := P) w g1 0 ty1 cs1.toList d1 r1.range u1 k1 (by simpa using i1)
  simp only [Array.toArray_toList] at l1
  simp only [Array.getD_eq_getD_getElem?] at h1
  simp [results, h, h1, asAddr, l1]
def dcL (bs : List UInt8) : Array Value := if dcE bs = 0 then LV (gK bs) (gE bs) (gF bs) (gN bs) (gA bs) (gP bs) else ZL
def DcPost (bs : List UInt8) (W : World) (e : Ending) (W' : World) : Prop := e = .returned (.tuple #[.agg (dcL bs), .int .i64 (dcE bs)]) ∧ Below W.heap.size W W'
theorem dc_no {bs : List UInt8} {E : Int} {W W' : World} (h : dcE bs = E) (hE : E ≠ 0) (hB : Below W.heap.size W W') : DcPost bs W (.returned (.tuple #[.agg ZL, .int .i64 E])) W' := by
  unfold DcPost dcL
  rw [h, if_neg hE]
  exact ⟨rfl, hB⟩
theorem dc_yes {bs : List UInt8} {k : Int} {e f : Bool} {n a : Int} {p : List UInt8} {W W' : World} (h : dcE bs = 0) (hk : gK bs = k) (he : gE bs = e) (hf : gF bs = f) (hn : gN bs = n) (ha : gA bs = a) (hp : gP bs = p) (hB : Below W.heap.size W W') : DcPost bs W (.returned (.tuple #[.agg (LV k e f n a p), .int .i64 0])) W' := by
  unfold DcPost dcL
  rw [h, if_pos rfl, hk, he, hf, hn, ha, hp]
  exact ⟨rfl, hB⟩
theorem u8_and : ∀ x : Fin 256, bits .and .u8 ((x.val : Nat) : Int) 3 = ((x.val % 4 : Nat) : Int) ∧ (bits .and .u8 ((x.val : Nat) : Int) 4 != 0) = (x.val / 4 % 2 == 1) ∧ (bits .and .u8 ((x.val : Nat) : Int) 8 != 0) = (x.val / 8 % 2 == 1) := by decide +kernel
theorem zl_61 : ZL.size = 61 := LV_size _ _ _ _ _ z56_len
theorem guard147 : Try.prog.eqGuardType Try.prog.depth 147 = false := by kernel_rfl
theorem info147 : (Try.prog.info? 147).map (·.size) = some 64 := by kernel_rfl
theorem exec_arr {ev : Operand → Value} {w : World} {dst : Option Tmp} {typ : TypeId} {pos : String} {after : Array Edge} {gd : Option (Nat × Bool)} {x : Operand} (A : Option Addr) (c : Nat) (_ : 64 ≤ 64) (hx : ev x = .slice A 64 c) : (execOp ev { dst := dst, op := .sliceToArrayPointer 147 x, type := typ, pos := pos, after := after, guard := gd }).run Try.prog w = .ok (.value (.pointer A)) w := by
  unfold execOp
  simp [hx, Instr.arrayAt, run_underlying Try.underlying147]
/-- A new line, zero. -/
def NewL (base : Nat) (u : Value) (w : World) : Prop := ∃ g, u = .pointer (some ⟨g, 0, none⟩) ∧ base ≤ g ∧ Row w g 40 ZL
theorem NewL.mono {base : Nat} {u : Value} {w w' : World} (hg : Below w.heap.size w w') (h : NewL base u w) : NewL base u w' := by
  obtain ⟨g, e, h0, h⟩ := h
  exact ⟨g, e, h0, h.below hg h.lt⟩
theorem IsB.rng {w : World} {b o n : Nat} {bs : List UInt8} (h : IsB w (some ⟨b, o, none⟩) n bs) (hn : 0 < n) : w.rangeAt b o (bs.map bv).toArray.toList := by
  obtain ⟨b', o', e, hc⟩ := h.2 hn
  injection e with e
  injection e with e1 e2 e3
  subst e1 e2
  intro j v hv
  obtain ⟨hj, hv'⟩ := List.getElem?_eq_some_iff.1 hv
  have hj' : j < bs.length := by simpa using hj
  rw [hc j hj', ← hv']
  simp [bv]
theorem IsB.sufB {w : World} {b o n : Nat} {bs : List UInt8} (h : IsB w (some ⟨b, o, none⟩) n bs) (k : Nat) (hk : k ≤ n) : IsB w (some ⟨b, o + k, none⟩) (n - k) (bs.drop k) := by
  refine ⟨by rw [List.length_drop, h.1], fun hn => ?_⟩
  obtain ⟨b', o', e, hc⟩ := h.2 (by omega)
  injection e with e
  injection e with e1 e2 e3
  subst e1 e2
  refine ⟨b, o + k, rfl, fun i hi => ?_⟩
  simp only [List.length_drop] at hi
  rw [Nat.add_assoc, hc (k + i) (by omega)]
  simp
theorem LV_copy {K : Int} {E F : Bool} {n a : Int} {q : List UInt8} (hq : q.length = 56) : ((LV K E F n a z56).toList.take 5 ++ (q.map bv ++ (LV K E F n a z56).toList.drop (5 + (q.map bv).length))).toArray = LV K E F n a q := by
  have e : (LV K E F n a z56).toList.drop (5 + (q.map bv).length) = [] := List.drop_eq_nil_of_le (by simp [LV, z56, hq])
  rw [e, List.append_nil]
  rfl
theorem encode_yes (k : Int) (e f : Bool) (n a : Int) (p : List UInt8) (a0 : 0 ≤ a) (a1 : a < 65536) (hp : p.length = 56) (h : lnE k e f n p = 0) (W : World) : Calls Try.prog 30 #[.agg (LV k e f n a p)] W (fun e' W' => ∃ g, W.heap.size ≤ g ∧ e' = .returned (.tuple #[.slice (some ⟨g, 0, none⟩) 64 64, .int .i64 0]) ∧ Row W' g 5 ((lnB k e f n a p).map bv).toArray ∧ Below W.heap.size W W') :=
  (encode_line k e f n a p a0 a1 hp W).mono (by
    rintro e' W' ⟨⟨h1, _⟩ | ⟨_, g, h1, h2, h3⟩, hB⟩
    · exact absurd h h1
    · exact ⟨g, h1, h2, h3, hB⟩)
theorem encode_no (k : Int) (e f : Bool) (n a : Int) (p : List UInt8) (E : Int) (a0 : 0 ≤ a) (a1 : a < 65536) (hp : p.length = 56) (h : lnE k e f n p = E) (hE : E ≠ 0) (W : World) : Calls Try.prog 30 #[.agg (LV k e f n a p)] W (EncNo E W) :=
  (encode_line k e f n a p a0 a1 hp W).mono (by
    rintro e' W' ⟨⟨h1, h2⟩ | ⟨h1, _⟩, hB⟩
    · exact ⟨by rw [h2, h], hB⟩
    · exact absurd (h.symm.trans h1) hE)
theorem gA_fix {bs : List UInt8} (h : bs.length = 64) : fixR bs 2 2 = ((gA bs).toNat, 0) := by
  unfold fixR gA
  rw [if_neg (by omega), if_neg (by rw [h]; decide)]
  match bs, h with
  | a :: b :: c :: d :: r, h => simp [seg, leN]; omega
structure Flds (bs : List UInt8) (X0 K : Int) (F E : Bool) (n : Int) : Prop where
  k : bits .and .u8 X0 3 = K
  f : (bits .and .u8 X0 4 != 0) = F
  e : (bits .and .u8 X0 8 != 0) = E
set_option maxRecDepth 100000 in
set_option maxHeartbeats 4000000 in
theorem decode_short (A : Option Addr) (n c : Nat) (bs : List UInt8) (W : World) (hA : IsB W A n bs) (hn : n < 64) : Calls Try.prog 32 #[.slice A n c] W (DcPost bs W) := by
  have hd : decide (n < 64) = true := by simpa using hn
  have hd' : decide ((n : Int) < 64) = true := by simp; omega
  have hB := (Below.refl W.heap.size W).alloc (Nat.le_refl _) (.cells ZL 40)
  have r2 := Row.born W 40 ZL
  have HE := Lib.hid (dc_short (bs := bs) (by have := hA.1; omega))
  go_enter Try.func32, Try.ntmps32
  go_upto_region 1 with (fail)
  obtain ⟨w1, hw1⟩ : ∃ w1, W.alloc (.cells ZL 40) = w1 := ⟨_, rfl⟩
  rw [hw1] at r2 hB
  have hw2 : W.alloc (.cells #[.int .i64 0, .bool false, .bool false, .int .i64 0, .int .u16 0, .int .u8 0, .int .u8 0, .int .u8 0, .int .u8 0, .int .u8 0, .int .u8 0, .int .u8 0, .int .u8 0, .int .u8 0, .int .u8 0, .int .u8 0, .int .u8 0, .int .u8 0, .int .u8 0, .int .u8 0, .int .u8 0, .int .u8 0, .int .u8 0, .int .u8 0, .int .u8 0, .int .u8 0, .int .u8 0, .int .u8 0, .int .u8 0, .int .u8 0, .int .u8 0, .int .u8 0, .int .u8 0, .int .u8 0, .int .u8 0, .int .u8 0, .int .u8 0, .int .u8 0, .int .u8 0, .int .u8 0, .int .u8 0, .int .u8 0, .int .u8 0, .int .u8 0, .int .u8 0, .int .u8 0, .int .u8 0, .int .u8 0, .int .u8 0, .int .u8 0, .int .u8 0, .int .u8 0, .int .u8 0, .int .u8 0, .int .u8 0, .int .u8 0, .int .u8 0, .int .u8 0, .int .u8 0, .int .u8 0, .int .u8 0] 40) = w1 := hw1
  rw [hw2]
  clear hw1 hw2
  go_wp2_with ((with_reducible refine wp_row_store (L := ZL) r2 rfl zl_info zl_one ?_ ?_ ?_); rfl; rfl; intro wz uz rz)
  refine bodyPost_ret (results_ct rfl rfl rz Try.underlying40 rfl zl_info) rfl ?_
  exact dc_no HE.out (by decide) (Upd.below hB uz (Nat.le_refl _))
set_option maxRecDepth 100000 in
set_option maxHeartbeats 4000000 in
theorem decode_long (A : Option Addr) (n c : Nat) (bs : List UInt8) (W : World) (hA : IsB W A n bs) (hn : 64 < n) : Calls Try.prog 32 #[.slice A n c] W (DcPost bs W) := by
  have hd : decide (n < 64) = false := by simp; omega
  have hd' : decide ((n : Int) < 64) = false := by simp; omega
  have he : decide (64 < n) = true := by simpa using hn
  have he' : decide (64 < (n : Int)) = true := by simp; omega
  have hB := (Below.refl W.heap.size W).alloc (Nat.le_refl _) (.cells ZL 40)
  have r2 := Row.born W 40 ZL
  have HE := Lib.hid (dc_long (bs := bs) (by have := hA.1; omega))
  go_enter Try.func32, Try.ntmps32
  go_upto_region 1 with (fail)
  obtain ⟨w1, hw1⟩ : ∃ w1, W.alloc (.cells ZL 40) = w1 := ⟨_, rfl⟩
  rw [hw1] at r2 hB
  have hw2 : W.alloc (.cells #[.int .i64 0, .bool false, .bool false, .int .i64 0, .int .u16 0, .int .u8 0, .int .u8 0, .int .u8 0, .int .u8 0, .int .u8 0, .int .u8 0, .int .u8 0, .int .u8 0, .int .u8 0, .int .u8 0, .int .u8 0, .int .u8 0, .int .u8 0, .int .u8 0, .int .u8 0, .int .u8 0, .int .u8 0, .int .u8 0, .int .u8 0, .int .u8 0, .int .u8 0, .int .u8 0, .int .u8 0, .int .u8 0, .int .u8 0, .int .u8 0, .int .u8 0, .int .u8 0, .int .u8 0, .int .u8 0, .int .u8 0, .int .u8 0, .int .u8 0, .int .u8 0, .int .u8 0, .int .u8 0, .int .u8 0, .int .u8 0, .int .u8 0, .int .u8 0, .int .u8 0, .int .u8 0, .int .u8 0, .int .u8 0, .int .u8 0, .int .u8 0, .int .u8 0, .int .u8 0, .int .u8 0, .int .u8 0, .int .u8 0, .int .u8 0, .int .u8 0, .int .u8 0, .int .u8 0, .int .u8 0] 40) = w1 := hw1
  rw [hw2]
  clear hw1 hw2
  go_wp2_with ((with_reducible refine wp_row_store (L := ZL) r2 rfl zl_info zl_one ?_ ?_ ?_); rfl; rfl; intro wz uz rz)
  refine bodyPost_ret (results_ct rfl rfl rz Try.underlying40 rfl zl_info) rfl ?_
  exact dc_no HE.out (by decide) (Upd.below hB uz (Nat.le_refl _))
set_option maxRecDepth 100000 in
set_option maxHeartbeats 4000000 in
theorem decode_sum (A : Option Addr) (c : Nat) (bs : List UInt8) (W : World) (hA : IsB W A 64 bs) (hs : sum16 bs ≠ 0) : Calls Try.prog 32 #[.slice A 64 c] W (DcPost bs W) := by
  have hB := (Below.refl W.heap.size W).alloc (Nat.le_refl _) (.cells ZL 40)
  have r2 := Row.born W 40 ZL
  have HE := Lib.hid (show dcE bs = 55 by unfold dcE; rw [if_neg (by rw [← hA.1]; omega), if_neg (by rw [← hA.1]; omega), if_pos hs])
  obtain ⟨S, hS⟩ : ∃ S, sum16 bs = S := ⟨_, rfl⟩
  have HS := Lib.hid hS
  rw [hS] at hs
  clear hS
  have z1 : ((S : Int) == 0) = false := by simpa using hs
  have z2 : (S == 0) = false := by simpa using hs
  have z3 : ((S : Int) != 0) = true := by simpa using hs
  have z4 : (S = 0) = False := by simpa using hs
  clear hs
  go_enter Try.func32, Try.ntmps32
  go_upto_region 1 with (fail)
  obtain ⟨w1, hw1⟩ : ∃ w1, W.alloc (.cells ZL 40) = w1 := ⟨_, rfl⟩
  rw [hw1] at r2 hB
  have hw2 : W.alloc (.cells #[.int .i64 0, .bool false, .bool false, .int .i64 0, .int .u16 0, .int .u8 0, .int .u8 0, .int .u8 0, .int .u8 0, .int .u8 0, .int .u8 0, .int .u8 0, .int .u8 0, .int .u8 0, .int .u8 0, .int .u8 0, .int .u8 0, .int .u8 0, .int .u8 0, .int .u8 0, .int .u8 0, .int .u8 0, .int .u8 0, .int .u8 0, .int .u8 0, .int .u8 0, .int .u8 0, .int .u8 0, .int .u8 0, .int .u8 0, .int .u8 0, .int .u8 0, .int .u8 0, .int .u8 0, .int .u8 0, .int .u8 0, .int .u8 0, .int .u8 0, .int .u8 0, .int .u8 0, .int .u8 0, .int .u8 0, .int .u8 0, .int .u8 0, .int .u8 0, .int .u8 0, .int .u8 0, .int .u8 0, .int .u8 0, .int .u8 0, .int .u8 0, .int .u8 0, .int .u8 0, .int .u8 0, .int .u8 0, .int .u8 0, .int .u8 0, .int .u8 0, .int .u8 0, .int .u8 0, .int .u8 0] 40) = w1 := hw1
  rw [hw2]
  clear hw1 hw2
  have hA1 := hA.below hB
  go_wp2_with (first | ((with_reducible refine wp_row_store (L := ZL) r2 rfl zl_info zl_one ?_ ?_ ?_); rfl; rfl; intro wz uz rz) | (go_at_call 97; refine (sum16_any _ _ _ _ _ hA1 (by omega)).mono ?_; rintro e w' ⟨rfl, rfl⟩; rw [HS.out]))
  refine bodyPost_ret (results_ct rfl rfl rz Try.underlying40 rfl zl_info) rfl ?_
  exact dc_no HE.out (by decide) (Upd.below hB uz (Nat.le_refl _))
set_option maxRecDepth 100000 in
set_option maxHeartbeats 4000000 in
theorem decode_main (A : Option Addr) (c : Nat) (bs : List UInt8) (W : World) (hA : IsB W A 64 bs) (hs : sum16 bs = 0) (hc : 64 ≤ c) : Calls Try.prog 32 #[.slice A 64 c] W (DcPost bs W) := by
  have hB := (Below.refl W.heap.size W).alloc (Nat.le_refl _) (.cells ZL 40)
  have r2 := Row.born W 40 ZL
  have hl1 : bs.length = 64 := hA.1.symm
  have HD := Lib.hid (show dcE bs = if dcOk bs = true then 0 else 54 by unfold dcE; rw [hl1, hs]; simp)
  have HS := Lib.hid hs
  clear hs
  obtain ⟨bb, oo, rfl, hbb, hcell⟩ := hA.at_ (by omega)
  have x00 := hcell 0 (by omega)
  have x11 := hcell 1 (by omega)
  rw [Nat.add_zero] at x00
  have g0 : bs[0].toNat = (bs.getD 0 0).toNat := by rw [List.getD_eq_getElem?_getD, List.getElem?_eq_getElem (by omega)]; rfl
  have g1 : bs[1].toNat = (bs.getD 1 0).toNat := by rw [List.getD_eq_getElem?_getD, List.getElem?_eq_getElem (by omega)]; rfl
  have hx := bs[0].toNat_lt
  have hx1 := bs[1].toNat_lt
  obtain ⟨f1, f2, f3⟩ := u8_and ⟨bs[0].toNat, hx⟩
  dsimp only at f1 f2 f3
  rw [g0] at f1 f2 f3 x00
  rw [g1] at x11 hx1
  obtain ⟨K, hK⟩ : ∃ K, gK bs = K := ⟨_, rfl⟩
  obtain ⟨F, hF⟩ : ∃ F, gF bs = F := ⟨_, rfl⟩
  obtain ⟨E, hE⟩ : ∃ E, gE bs = E := ⟨_, rfl⟩
  obtain ⟨n, hn⟩ : ∃ n, gN bs = n := ⟨_, rfl⟩
  obtain ⟨a, ha⟩ : ∃ a, gA bs = a := ⟨_, rfl⟩
  obtain ⟨X0, hX0⟩ : ∃ X0 : Int, ((bs.getD 0 0).toNat : Int) = X0 := ⟨_, rfl⟩
  have k3 : bits .and .u8 X0 3 = K := by rw [← hX0, ← hK]; exact f1
  have k4 : (bits .and .u8 X0 4 != 0) = F := by rw [← hX0, ← hF]; exact f2
  have k8 : (bits .and .u8 X0 8 != 0) = E := by rw [← hX0, ← hE]; exact f3
  have n0 : 0 ≤ n ∧ n < 256 := by rw [← hn]; unfold gN; omega
  have a0 : 0 ≤ a ∧ a < 65536 := by
    rw [← ha]
    unfold gA
    have := (bs.getD 2 0).toNat_lt
    have := (bs.getD 3 0).toNat_lt
    omega
  have hfix : fixR bs 2 2 = (a.toNat, 0) := by rw [gA_fix hl1, ha]
  have q0 : 0 ≤ K ∧ K < 4 := by rw [← hK]; unfold gK; omega
  rw [hX0] at x00
  have x11 : W.cell? ⟨bb, oo + 1, none⟩ = some (.int .u8 n) := by rw [x11, ← hn]; rfl
  have HK := Lib.hid hK
  have HF := Lib.hid hF
  have HEE := Lib.hid hE
  have HN := Lib.hid hn
  have HA := Lib.hid ha
  have HFX := Lib.hid hfix
  clear f1 f2 f3 hx hx1 g0 g1 hK hF hE hn ha hX0 hcell hfix
  have hs0 : ((sum16 bs : Nat) : Int) = 0 := by rw [HS.out]; rfl
  have HS0 := Lib.hid hs0
  clear hs0
  go_enter Try.func32, Try.ntmps32
  go_upto_region 1 with (fail)
  obtain ⟨w1, hw1⟩ : ∃ w1, W.alloc (.cells ZL 40) = w1 := ⟨_, rfl⟩
  rw [hw1] at r2 hB
  have hw2 : W.alloc (.cells #[.int .i64 0, .bool false, .bool false, .int .i64 0, .int .u16 0, .int .u8 0, .int .u8 0, .int .u8 0, .int .u8 0, .int .u8 0, .int .u8 0, .int .u8 0, .int .u8 0, .int .u8 0, .int .u8 0, .int .u8 0, .int .u8 0, .int .u8 0, .int .u8 0, .int .u8 0, .int .u8 0, .int .u8 0, .int .u8 0, .int .u8 0, .int .u8 0, .int .u8 0, .int .u8 0, .int .u8 0, .int .u8 0, .int .u8 0, .int .u8 0, .int .u8 0, .int .u8 0, .int .u8 0, .int .u8 0, .int .u8 0, .int .u8 0, .int .u8 0, .int .u8 0, .int .u8 0, .int .u8 0, .int .u8 0, .int .u8 0, .int .u8 0, .int .u8 0, .int .u8 0, .int .u8 0, .int .u8 0, .int .u8 0, .int .u8 0, .int .u8 0, .int .u8 0, .int .u8 0, .int .u8 0, .int .u8 0, .int .u8 0, .int .u8 0, .int .u8 0, .int .u8 0, .int .u8 0, .int .u8 0] 40) = w1 := hw1
  rw [hw2]
  clear hw1 hw2
  have hA1 := hA.below hB
  go_upto_region 8 with (first | (go_at_call 97; refine (sum16_any _ _ _ _ _ hA1 (by omega)).mono ?_; rintro e w' ⟨rfl, h9⟩; rw [← h9, HS0.out]; clear h9) | (go_at_call 98; refine (uint16_01 _ _ _ _ 2 _ hA1 (by omega) (by omega) (by omega)).mono ?_; rintro e w' ⟨rfl, h9⟩; rw [h9, HFX.out]; clear h9; rw [show ((a.toNat : Nat) : Int) = a by omega]))
  have x0 := (hB.cell (p := ⟨bb, oo, none⟩) hbb).trans x00
  have x1 := (hB.cell (p := ⟨bb, oo + 1, none⟩) hbb).trans x11
  have hlz : bb < w1.heap.size := by have := hB.size; omega
  have hlt0 := r2.lt
  have kw : IntKind.i64.wrap K = K := by rw [IntKind.wrap_i64]; omega
  have nw : IntKind.i64.wrap n = n := by rw [IntKind.wrap_i64]; omega
  refine wp_region_tailN (n := 73) 22 (fun w' => Below w1.heap.size w1 w') (fun w1 w2 => Below w1.heap.size w1 w2) (by kernel_rfl) (by kernel_rfl) (by decide) (by rfl) (Below.refl _ _).drew ?_
  simp only [List.take_succ_cons, List.take_zero, List.drop_succ_cons, List.drop_zero]
  refine tail_pure (fun w => Below.refl _ w) (v := .slice (some ⟨bb, oo, none⟩) 64 c) (fun _ => rfl) ?_ ?_; (focus (intro us w9 hS9 hF; clear hF; have k0 := (hS9.cell (p := ⟨bb, oo, none⟩) hlz).trans x0; have k1 := (hS9.cell (p := ⟨bb, oo + 1, none⟩) hlz).trans x1; clear hS9; go_simp; (try with_reducible rfl); done)); simp only [Act.put, List.setIfInBounds_toArray, List.set_cons_zero, List.set_cons_succ, Nat.reduceAdd]
  refine tail_pure (fun w => Below.refl _ w) (v := .pointer (some ⟨bb, oo, none⟩)) (fun _ => rfl) ?_ ?_; (focus (intro us w9 hS9 hF; clear hF; have k0 := (hS9.cell (p := ⟨bb, oo, none⟩) hlz).trans x0; have k1 := (hS9.cell (p := ⟨bb, oo + 1, none⟩) hlz).trans x1; clear hS9; go_simp; (try with_reducible rfl); done)); simp only [Act.put, List.setIfInBounds_toArray, List.set_cons_zero, List.set_cons_succ, Nat.reduceAdd]
  refine tail_pure (fun w => Below.refl _ w) (v := .int .u8 X0) (fun _ => rfl) ?_ ?_; (focus (intro us w9 hS9 hF; clear hF; have k0 := (hS9.cell (p := ⟨bb, oo, none⟩) hlz).trans x0; have k1 := (hS9.cell (p := ⟨bb, oo + 1, none⟩) hlz).trans x1; clear hS9; go_simp; (try with_reducible rfl); done)); simp only [Act.put, List.setIfInBounds_toArray, List.set_cons_zero, List.set_cons_succ, Nat.reduceAdd]
  refine tail_pure (fun w => Below.refl _ w) (v := .int .u8 K) (fun _ => rfl) ?_ ?_; (focus (intro us w9 hS9 hF; clear hF; have k0 := (hS9.cell (p := ⟨bb, oo, none⟩) hlz).trans x0; have k1 := (hS9.cell (p := ⟨bb, oo + 1, none⟩) hlz).trans x1; clear hS9; go_simp; (try with_reducible rfl); done)); simp only [Act.put, List.setIfInBounds_toArray, List.set_cons_zero, List.set_cons_succ, Nat.reduceAdd]
  refine tail_pure (fun w => Below.refl _ w) (v := .int .i64 K) (fun _ => rfl) ?_ ?_; (focus (intro us w9 hS9 hF; clear hF; have k0 := (hS9.cell (p := ⟨bb, oo, none⟩) hlz).trans x0; have k1 := (hS9.cell (p := ⟨bb, oo + 1, none⟩) hlz).trans x1; clear hS9; go_simp; (try with_reducible rfl); done)); simp only [Act.put, List.setIfInBounds_toArray, List.set_cons_zero, List.set_cons_succ, Nat.reduceAdd]
  refine tail_pure (fun w => Below.refl _ w) (v := .slice (some ⟨bb, oo, none⟩) 64 c) (fun _ => rfl) ?_ ?_; (focus (intro us w9 hS9 hF; clear hF; have k0 := (hS9.cell (p := ⟨bb, oo, none⟩) hlz).trans x0; have k1 := (hS9.cell (p := ⟨bb, oo + 1, none⟩) hlz).trans x1; clear hS9; go_simp; (try with_reducible rfl); done)); simp only [Act.put, List.setIfInBounds_toArray, List.set_cons_zero, List.set_cons_succ, Nat.reduceAdd]
  refine tail_pure (fun w => Below.refl _ w) (v := .pointer (some ⟨bb, oo, none⟩)) (fun _ => rfl) ?_ ?_; (focus (intro us w9 hS9 hF; clear hF; have k0 := (hS9.cell (p := ⟨bb, oo, none⟩) hlz).trans x0; have k1 := (hS9.cell (p := ⟨bb, oo + 1, none⟩) hlz).trans x1; clear hS9; go_simp; (try with_reducible rfl); done)); simp only [Act.put, List.setIfInBounds_toArray, List.set_cons_zero, List.set_cons_succ, Nat.reduceAdd]
  refine tail_pure (fun w => Below.refl _ w) (v := .int .u8 X0) (fun _ => rfl) ?_ ?_; (focus (intro us w9 hS9 hF; clear hF; have k0 := (hS9.cell (p := ⟨bb, oo, none⟩) hlz).trans x0; have k1 := (hS9.cell (p := ⟨bb, oo + 1, none⟩) hlz).trans x1; clear hS9; go_simp; (try with_reducible rfl); done)); simp only [Act.put, List.setIfInBounds_toArray, List.set_cons_zero, List.set_cons_succ, Nat.reduceAdd]
  refine tail_pure (fun w => Below.refl _ w) (v := .int .u8 (bits .and .u8 X0 4)) (fun _ => rfl) ?_ ?_; (focus (intro us w9 hS9 hF; clear hF; have k0 := (hS9.cell (p := ⟨bb, oo, none⟩) hlz).trans x0; have k1 := (hS9.cell (p := ⟨bb, oo + 1, none⟩) hlz).trans x1; clear hS9; go_simp; (try with_reducible rfl); done)); simp only [Act.put, List.setIfInBounds_toArray, List.set_cons_zero, List.set_cons_succ, Nat.reduceAdd]
  refine tail_pure (fun w => Below.refl _ w) (v := .bool F) (fun _ => rfl) ?_ ?_; (focus (intro us w9 hS9 hF; clear hF; have k0 := (hS9.cell (p := ⟨bb, oo, none⟩) hlz).trans x0; have k1 := (hS9.cell (p := ⟨bb, oo + 1, none⟩) hlz).trans x1; clear hS9; go_simp; (try with_reducible rfl); done)); simp only [Act.put, List.setIfInBounds_toArray, List.set_cons_zero, List.set_cons_succ, Nat.reduceAdd]
  refine tail_pure (fun w => Below.refl _ w) (v := .slice (some ⟨bb, oo, none⟩) 64 c) (fun _ => rfl) ?_ ?_; (focus (intro us w9 hS9 hF; clear hF; have k0 := (hS9.cell (p := ⟨bb, oo, none⟩) hlz).trans x0; have k1 := (hS9.cell (p := ⟨bb, oo + 1, none⟩) hlz).trans x1; clear hS9; go_simp; (try with_reducible rfl); done)); simp only [Act.put, List.setIfInBounds_toArray, List.set_cons_zero, List.set_cons_succ, Nat.reduceAdd]
  refine tail_pure (fun w => Below.refl _ w) (v := .pointer (some ⟨bb, oo, none⟩)) (fun _ => rfl) ?_ ?_; (focus (intro us w9 hS9 hF; clear hF; have k0 := (hS9.cell (p := ⟨bb, oo, none⟩) hlz).trans x0; have k1 := (hS9.cell (p := ⟨bb, oo + 1, none⟩) hlz).trans x1; clear hS9; go_simp; (try with_reducible rfl); done)); simp only [Act.put, List.setIfInBounds_toArray, List.set_cons_zero, List.set_cons_succ, Nat.reduceAdd]
  refine tail_pure (fun w => Below.refl _ w) (v := .int .u8 X0) (fun _ => rfl) ?_ ?_; (focus (intro us w9 hS9 hF; clear hF; have k0 := (hS9.cell (p := ⟨bb, oo, none⟩) hlz).trans x0; have k1 := (hS9.cell (p := ⟨bb, oo + 1, none⟩) hlz).trans x1; clear hS9; go_simp; (try with_reducible rfl); done)); simp only [Act.put, List.setIfInBounds_toArray, List.set_cons_zero, List.set_cons_succ, Nat.reduceAdd]
  refine tail_pure (fun w => Below.refl _ w) (v := .int .u8 (bits .and .u8 X0 8)) (fun _ => rfl) ?_ ?_; (focus (intro us w9 hS9 hF; clear hF; have k0 := (hS9.cell (p := ⟨bb, oo, none⟩) hlz).trans x0; have k1 := (hS9.cell (p := ⟨bb, oo + 1, none⟩) hlz).trans x1; clear hS9; go_simp; (try with_reducible rfl); done)); simp only [Act.put, List.setIfInBounds_toArray, List.set_cons_zero, List.set_cons_succ, Nat.reduceAdd]
  refine tail_pure (fun w => Below.refl _ w) (v := .bool E) (fun _ => rfl) ?_ ?_; (focus (intro us w9 hS9 hF; clear hF; have k0 := (hS9.cell (p := ⟨bb, oo, none⟩) hlz).trans x0; have k1 := (hS9.cell (p := ⟨bb, oo + 1, none⟩) hlz).trans x1; clear hS9; go_simp; (try with_reducible rfl); done)); simp only [Act.put, List.setIfInBounds_toArray, List.set_cons_zero, List.set_cons_succ, Nat.reduceAdd]
  refine tail_pure (fun w => Below.refl _ w) (v := .slice (some ⟨bb, oo, none⟩) 64 c) (fun _ => rfl) ?_ ?_; (focus (intro us w9 hS9 hF; clear hF; have k0 := (hS9.cell (p := ⟨bb, oo, none⟩) hlz).trans x0; have k1 := (hS9.cell (p := ⟨bb, oo + 1, none⟩) hlz).trans x1; clear hS9; go_simp; (try with_reducible rfl); done)); simp only [Act.put, List.setIfInBounds_toArray, List.set_cons_zero, List.set_cons_succ, Nat.reduceAdd]
  refine tail_pure (fun w => Below.refl _ w) (v := .pointer (some ⟨bb, oo + 1, none⟩)) (fun _ => rfl) ?_ ?_; (focus (intro us w9 hS9 hF; clear hF; have k0 := (hS9.cell (p := ⟨bb, oo, none⟩) hlz).trans x0; have k1 := (hS9.cell (p := ⟨bb, oo + 1, none⟩) hlz).trans x1; clear hS9; go_simp; (try with_reducible rfl); done)); simp only [Act.put, List.setIfInBounds_toArray, List.set_cons_zero, List.set_cons_succ, Nat.reduceAdd]
  refine tail_pure (fun w => Below.refl _ w) (v := .int .u8 n) (fun _ => rfl) ?_ ?_; (focus (intro us w9 hS9 hF; clear hF; have k0 := (hS9.cell (p := ⟨bb, oo, none⟩) hlz).trans x0; have k1 := (hS9.cell (p := ⟨bb, oo + 1, none⟩) hlz).trans x1; clear hS9; go_simp; (try with_reducible rfl); done)); simp only [Act.put, List.setIfInBounds_toArray, List.set_cons_zero, List.set_cons_succ, Nat.reduceAdd]
  refine tail_pure (fun w => Below.refl _ w) (v := .int .i64 n) (fun _ => rfl) ?_ ?_; (focus (intro us w9 hS9 hF; clear hF; have k0 := (hS9.cell (p := ⟨bb, oo, none⟩) hlz).trans x0; have k1 := (hS9.cell (p := ⟨bb, oo + 1, none⟩) hlz).trans x1; clear hS9; go_simp; (try with_reducible rfl); done)); simp only [Act.put, List.setIfInBounds_toArray, List.set_cons_zero, List.set_cons_succ, Nat.reduceAdd]
  refine tail_pure (fun w => Below.refl _ w) (v := .int .u16 a) (fun _ => rfl) ?_ ?_; (focus (intro us w9 hS9 hF; clear hF; have k0 := (hS9.cell (p := ⟨bb, oo, none⟩) hlz).trans x0; have k1 := (hS9.cell (p := ⟨bb, oo + 1, none⟩) hlz).trans x1; clear hS9; go_simp; (try with_reducible rfl); done)); simp only [Act.put, List.setIfInBounds_toArray, List.set_cons_zero, List.set_cons_succ, Nat.reduceAdd]
  refine tail_pure (fun w => Below.refl _ w) (v := .agg (LV K E F n a z56)) (fun _ => rfl) ?_ ?_; (focus (intro us w9 hS9 hF; clear hF; clear hS9; go_simp; rfl)); simp only [Act.put, List.setIfInBounds_toArray, List.set_cons_zero, List.set_cons_succ, Nat.reduceAdd]
  refine tail_free (NewL w1.heap.size) (fun u w1 w2 hg h => NewL.mono hg h) ?_ ?_; (focus (intro us w9 hS9 hF K hK; clear hF; go_simp; exact hK _ _ (hS9.alloc hS9.size _) ((Below.refl _ _).alloc (Nat.le_refl _) _) ⟨w9.heap.size, rfl, hS9.size, Row.born _ _ _⟩)); simp only [Act.put, List.setIfInBounds_toArray, List.set_cons_zero, List.set_cons_succ, Nat.reduceAdd]
  refine tail_done fun us w3 hS3 hF => ?_
  obtain ⟨g6, hu, hg6, hr6⟩ := hF _ (List.mem_cons_self ..)
  dsimp only at hu
  clear hF k3 k4 k8 kw nw
  simp only [hu]
  refine wp_row_store (L := LV K E F n a z56) hr6 ((LV_size _ _ _ _ _ z56_len).trans (LV_size _ _ _ _ _ z56_len).symm) (line_info _ _ _ _ _ z56_len) (LV_one _ _ _ _ _ _) rfl rfl ?_
  intro w4 u4 r4
  have hb14 := Upd.below hS3 u4 hg6
  have hB4 := hB.trans (hb14.mono hB.size)
  have r2 := r2.below hb14 r2.lt
  have hA4 := hA.below hB4
  have hsz := hB.size
  clear hS3 u4 hr6 hu x0 x1 hb14 hB hA1
  go_upto_region 9 with (fail)
  have hl6 := r4.lt
  have hl2 := r2.lt
  have hc8 : (8 : Int) ≤ c := by omega
  have hcn : ¬ c = 8 := by omega
  refine wp_region_tailN (n := 73) 4 (fun w' => Below w4.heap.size w4 w') (fun w1 w2 => Below w1.heap.size w1 w2) (by kernel_rfl) (by kernel_rfl) (by decide) (by rfl) (Below.refl _ _).drew ?_
  simp only [List.take_succ_cons, List.take_zero, List.drop_succ_cons, List.drop_zero]
  refine tail_pure (fun w => Below.refl _ w) (v := .pointer (some ⟨g6, 5, none⟩)) (fun _ => rfl) ?_ ?_; (focus (intro us w9 hS9 hF; clear hF; clear hS9; go_simp; (try with_reducible rfl); done)); simp only [Act.put, List.setIfInBounds_toArray, List.set_cons_zero, List.set_cons_succ, Nat.reduceAdd]
  refine tail_pure (fun w => Below.refl _ w) (v := .slice (some ⟨g6, 5, none⟩) 56 56) (fun _ => rfl) ?_ ?_; (focus (intro us w9 hS9 hF; clear hF; clear hS9; go_simp; (try with_reducible rfl); done)); simp only [Act.put, List.setIfInBounds_toArray, List.set_cons_zero, List.set_cons_succ, Nat.reduceAdd]
  refine tail_pure (fun w => Below.refl _ w) (v := .slice (some ⟨bb, oo, none⟩) 64 c) (fun _ => rfl) ?_ ?_; (focus (intro us w9 hS9 hF; clear hF; clear hS9; go_simp; (try with_reducible rfl); done)); simp only [Act.put, List.setIfInBounds_toArray, List.set_cons_zero, List.set_cons_succ, Nat.reduceAdd]
  refine tail_pure (fun w => Below.refl _ w) (v := .slice (some ⟨bb, oo + 8, none⟩) 56 (c - 8)) (fun _ => rfl) ?_ ?_; (focus (intro us w9 hS9 hF; clear hF; clear hS9; go_simp; (try with_reducible rfl); done)); simp only [Act.put, List.setIfInBounds_toArray, List.set_cons_zero, List.set_cons_succ, Nat.reduceAdd]
  refine tail_done fun us w5 hS5 hF => ?_
  clear hF
  have r5 := r4.below hS5 hl6
  have r2 := r2.below hS5 hl2
  have hB5 := hB4.trans (hS5.mono hB4.size)
  have hA5 := hA4.below hS5
  have hsrc := (hA5.sufB 8 (by omega)).src (by omega)
  have hPl : (bs.drop 8).length = 56 := by simp [hl1]
  clear hS5 r4 hA4 hB4
  have r5' : Row w5 g6 40 (LV K E F n a z56).toList.toArray := r5
  refine wp_row_copy (P := Try.prog) (off := 5) (dCap := 56) (sCap := c - 8) (cs := (bs.drop 8).map bv) r5' Try.underlying44 info_u8s (by simp [hl1]) (fun _ => ⟨rfl, hsrc⟩) (by simp [LV, z56, hl1]) (bv_one _) rfl rfl ?_
  intro w6 u6 r6
  rw [LV_copy hPl] at r6
  have r2 := r2.upd u6 (by omega)
  have hB6 := Upd.below hB5 u6 (by omega)
  clear r5 r5' u6 hB5 hA5 hsrc
  have hA6 := hA.below hB6
  obtain ⟨P, hP⟩ : ∃ P, gP bs = P := ⟨_, rfl⟩
  have hP2 : bs.drop 8 = P := hP
  have HP := Lib.hid hP
  rw [hP2] at r6 hPl
  clear hP hP2
  by_cases hE0 : lnE K E F n P = 0
  · have HE0 := Lib.hid hE0
    clear hE0
    go_upto_region 11 with (first | ((with_reducible refine wp_load_g ?_ r6.range Try.underlying40 rfl (line_info _ _ _ _ _ hPl) ?_ ?_); rfl; rfl) | (go_at_call 30; refine (encode_yes K E F n a P a0.1 a0.2 hPl HE0.out _).mono ?_; rintro e w7 ⟨gl, hgl, rfl, hrl, hb7⟩))
    have hB7 := hB6.trans (hb7.mono hB6.size)
    have r2 := r2.below hb7 r2.lt
    have r7 := r6.below hb7 r6.lt
    have hA7 := hA6.below hb7
    clear hb7 r6 hA6 hB6
    obtain ⟨B, hBB⟩ : ∃ B, (lnB K E F n a P == bs) = B := ⟨_, rfl⟩
    have hl2 := lnB_len K E F n a P hPl
    have hOK : dcOk bs = B := by unfold dcOk; rw [HK.out, HEE.out, HF.out, HN.out, HA.out, HP.out, HE0.out, hBB]; rfl
    have HOK := Lib.hid hOK
    have hBB := Lib.hid hBB
    clear hOK
    generalize lnB K E F n a P = bs2 at *
    have i1 : (Try.prog.info? 147).map (·.size) = some (bs.map bv).toArray.size := by rw [info147]; simp [hl1]
    have i2 : (Try.prog.info? 147).map (·.size) = some (bs2.map bv).toArray.size := by rw [info147]; simp [hl2]
    have hrange : w7.drew.rangeAt bb oo (bs.map bv).toArray.toList := hA7.rng (by omega)
    have hrl : Row w7.drew gl 5 (bs2.map bv).toArray := hrl.drew
    have r2 := r2.drew
    have r7 := r7.drew
    have hB7 := hB7.drew
    refine wp_region_told (n := 73) (fun w' => w' = w7.drew) (fun _ _ => True) (by kernel_rfl) (by kernel_rfl) (by rfl) rfl ?_
    refine walk_pure (v := .int .i64 0) (fun _ => trivial) (fun _ => rfl) ?_ ?_; (focus (intro us w9 hS9 hF; clear hF; subst hS9; go_simp; (try with_reducible rfl); done)); simp only [Act.put, List.setIfInBounds_toArray, List.set_cons_zero, List.set_cons_succ, Nat.reduceAdd]
    refine walk_pure (v := .bool false) (fun _ => trivial) (fun _ => rfl) ?_ ?_; (focus (intro us w9 hS9 hF; clear hF; subst hS9; go_simp; (try with_reducible rfl); done)); simp only [Act.put, List.setIfInBounds_toArray, List.set_cons_zero, List.set_cons_succ, Nat.reduceAdd]
    refine walk_pure (v := .bool false) (fun _ => trivial) (fun _ => rfl) ?_ ?_; (focus (intro us w9 hS9 hF; clear hF; subst hS9; go_simp; (try with_reducible rfl); done)); simp only [Act.put, List.setIfInBounds_toArray, List.set_cons_zero, List.set_cons_succ, Nat.reduceAdd]
    refine walk_pure (v := .slice (some ⟨gl, 0, none⟩) 64 64) (fun _ => trivial) (fun _ => rfl) ?_ ?_; (focus (intro us w9 hS9 hF; clear hF; subst hS9; go_simp; (try with_reducible rfl); done)); simp only [Act.put, List.setIfInBounds_toArray, List.set_cons_zero, List.set_cons_succ, Nat.reduceAdd]
    refine walk_pure (v := .pointer (some ⟨gl, 0, none⟩)) (fun _ => trivial) (fun _ => rfl) ?_ ?_; (focus (intro us w9 hS9 hF; clear hF; subst hS9; exact exec_arr (some ⟨gl, 0, none⟩) 64 (by omega) rfl)); simp only [Act.put, List.setIfInBounds_toArray, List.set_cons_zero, List.set_cons_succ, Nat.reduceAdd]
    refine walk_pure (v := .agg (bs2.map bv).toArray) (fun _ => trivial) (fun _ => rfl) ?_ ?_; (focus (intro us w9 hS9 hF; clear hF; subst hS9; exact exec_load_g hrl.range Try.underlying147 rfl i2 rfl)); simp only [Act.put, List.setIfInBounds_toArray, List.set_cons_zero, List.set_cons_succ, Nat.reduceAdd]
    refine walk_pure (v := .slice (some ⟨bb, oo, none⟩) 64 c) (fun _ => trivial) (fun _ => rfl) ?_ ?_; (focus (intro us w9 hS9 hF; clear hF; subst hS9; go_simp; (try with_reducible rfl); done)); simp only [Act.put, List.setIfInBounds_toArray, List.set_cons_zero, List.set_cons_succ, Nat.reduceAdd]
    refine walk_pure (v := .pointer (some ⟨bb, oo, none⟩)) (fun _ => trivial) (fun _ => rfl) ?_ ?_; (focus (intro us w9 hS9 hF; clear hF; subst hS9; exact exec_arr (some ⟨bb, oo, none⟩) c (by omega) rfl)); simp only [Act.put, List.setIfInBounds_toArray, List.set_cons_zero, List.set_cons_succ, Nat.reduceAdd]
    refine walk_pure (v := .agg (bs.map bv).toArray) (fun _ => trivial) (fun _ => rfl) ?_ ?_; (focus (intro us w9 hS9 hF; clear hF; subst hS9; exact exec_load_g hrange Try.underlying147 rfl i1 rfl)); simp only [Act.put, List.setIfInBounds_toArray, List.set_cons_zero, List.set_cons_succ, Nat.reduceAdd]
    refine walk_pure (v := .bool (!B)) (fun _ => trivial) (fun _ => rfl) ?_ ?_; (focus (intro us w9 hS9 hF; clear hF; subst hS9; exact exec_neq_agg guard147 rfl rfl (by rw [eq_64 _ 9998 bs2 bs hl2 hl1, hBB]))); simp only [Act.put, List.setIfInBounds_toArray, List.set_cons_zero, List.set_cons_succ, Nat.reduceAdd]
    refine walk_pure (v := .bool (!B)) (fun _ => trivial) (fun _ => rfl) ?_ ?_; (focus (intro us w9 hS9 hF; clear hF; subst hS9; go_simp; (try with_reducible rfl); done)); simp only [Act.put, List.setIfInBounds_toArray, List.set_cons_zero, List.set_cons_succ, Nat.reduceAdd]
    refine walk_done fun us w9 hS9 hF => ?_
    subst hS9
    clear hF
    clear hrange hrl i1 i2 hl2 hA7
    generalize w7.drew = w8 at *
    cases B
    · have HE := Lib.hid (show dcE bs = 54 by rw [HD.out, HOK.out]; rfl)
      go_wp2_with ((with_reducible refine wp_row_store (L := ZL) r2 rfl zl_info zl_one ?_ ?_ ?_); rfl; rfl; intro wz uz rz)
      refine bodyPost_ret (results_ct rfl rfl rz Try.underlying40 rfl zl_info) rfl ?_
      exact dc_no HE.out (by decide) (Upd.below hB7 uz (Nat.le_refl _))
    · have HE := Lib.hid (show dcE bs = 0 by rw [HD.out, HOK.out]; rfl)
      go_wp2_with (first | ((with_reducible refine wp_load_g ?_ r7.range Try.underlying40 rfl (line_info _ _ _ _ _ hPl) ?_ ?_); rfl; rfl) | ((with_reducible refine wp_row_store (L := LV K E F n a P) r2 (zl_61.trans (LV_size _ _ _ _ _ hPl).symm) (line_info _ _ _ _ _ hPl) (LV_one _ _ _ _ _ _) ?_ ?_ ?_); rfl; rfl; intro wz uz rz))
      refine bodyPost_ret (results_ct rfl rfl rz Try.underlying40 rfl (line_info _ _ _ _ _ hPl)) rfl ?_
      exact dc_yes HE.out HK.out HEE.out HF.out HN.out HA.out HP.out (Upd.below hB7 uz (Nat.le_refl _))
  · obtain ⟨EE, hEE⟩ : ∃ EE, lnE K E F n P = EE := ⟨_, rfl⟩
    have hOK : dcOk bs = false := by
      unfold dcOk
      rw [HK.out, HEE.out, HF.out, HN.out, HA.out, HP.out, hEE]
      rw [hEE] at hE0
      simp [hE0]
    have HE := Lib.hid (show dcE bs = 54 by rw [HD.out, hOK]; rfl)
    have HEE2 := Lib.hid hEE
    rw [hEE] at hE0
    have e1 : (EE != 0) = true := by simpa using hE0
    clear hOK hEE
    go_upto_region 11 with (first | ((with_reducible refine wp_load_g ?_ r6.range Try.underlying40 rfl (line_info _ _ _ _ _ hPl) ?_ ?_); rfl; rfl) | (go_at_call 30; refine (encode_no K E F n a P EE a0.1 a0.2 hPl HEE2.out hE0 _).mono ?_; rintro e w7 ⟨rfl, hb7⟩))
    have hB7 := (hB6.trans (hb7.mono hB6.size)).drew
    have r2 := (r2.below hb7 r2.lt).drew
    clear hb7 r6 hA6 hB6
    refine wp_region_told (n := 73) (fun w' => w' = w7.drew) (fun _ _ => True) (by kernel_rfl) (by kernel_rfl) (by rfl) rfl ?_
    refine walk_pure (v := .int .i64 EE) (fun _ => trivial) (fun _ => rfl) ?_ ?_; (focus (intro us w9 hS9 hF; clear hF; subst hS9; go_simp; (try with_reducible rfl); done)); simp only [Act.put, List.setIfInBounds_toArray, List.set_cons_zero, List.set_cons_succ, Nat.reduceAdd]
    refine walk_pure (v := .bool true) (fun _ => trivial) (fun _ => rfl) ?_ ?_; (focus (intro us w9 hS9 hF; clear hF; subst hS9; go_simp; (try with_reducible rfl); done)); simp only [Act.put, List.setIfInBounds_toArray, List.set_cons_zero, List.set_cons_succ, Nat.reduceAdd]
    refine walk_pure (v := .bool true) (fun _ => trivial) (fun _ => rfl) ?_ ?_; (focus (intro us w9 hS9 hF; clear hF; subst hS9; go_simp; (try with_reducible rfl); done)); simp only [Act.put, List.setIfInBounds_toArray, List.set_cons_zero, List.set_cons_succ, Nat.reduceAdd]
    refine walk_skip (fun _ => trivial) (fun _ => rfl) ?_; simp only [Act.put, List.setIfInBounds_toArray, List.set_cons_zero, List.set_cons_succ, Nat.reduceAdd]
    refine walk_skip (fun _ => trivial) (fun _ => rfl) ?_; simp only [Act.put, List.setIfInBounds_toArray, List.set_cons_zero, List.set_cons_succ, Nat.reduceAdd]
    refine walk_skip (fun _ => trivial) (fun _ => rfl) ?_; simp only [Act.put, List.setIfInBounds_toArray, List.set_cons_zero, List.set_cons_succ, Nat.reduceAdd]
    refine walk_skip (fun _ => trivial) (fun _ => rfl) ?_; simp only [Act.put, List.setIfInBounds_toArray, List.set_cons_zero, List.set_cons_succ, Nat.reduceAdd]
    refine walk_skip (fun _ => trivial) (fun _ => rfl) ?_; simp only [Act.put, List.setIfInBounds_toArray, List.set_cons_zero, List.set_cons_succ, Nat.reduceAdd]
    refine walk_skip (fun _ => trivial) (fun _ => rfl) ?_; simp only [Act.put, List.setIfInBounds_toArray, List.set_cons_zero, List.set_cons_succ, Nat.reduceAdd]
    refine walk_skip (fun _ => trivial) (fun _ => rfl) ?_; simp only [Act.put, List.setIfInBounds_toArray, List.set_cons_zero, List.set_cons_succ, Nat.reduceAdd]
    refine walk_pure (v := .bool true) (fun _ => trivial) (fun _ => rfl) ?_ ?_; (focus (intro us w9 hS9 hF; clear hF; subst hS9; go_simp; (try with_reducible rfl); done)); simp only [Act.put, List.setIfInBounds_toArray, List.set_cons_zero, List.set_cons_succ, Nat.reduceAdd]
    refine walk_done fun us w9 hS9 hF => ?_
    subst hS9
    clear hF
    generalize w7.drew = w8 at *
    clear e1 hE0
    go_wp2_with ((with_reducible refine wp_row_store (L := ZL) r2 rfl zl_info zl_one ?_ ?_ ?_); rfl; rfl; intro wz uz rz)
    refine bodyPost_ret (results_ct rfl rfl rz Try.underlying40 rfl zl_info) rfl ?_
    exact dc_no HE.out (by decide) (Upd.below hB7 uz (Nat.le_refl _))
theorem decode_line (A : Option Addr) (n c : Nat) (bs : List UInt8) (W : World) (hA : IsB W A n bs) (hc : n ≤ c) : Calls Try.prog 32 #[.slice A n c] W (DcPost bs W) := by
  rcases Nat.lt_trichotomy n 64 with h | rfl | h
  · exact decode_short A n c bs W hA h
  · by_cases hs : sum16 bs = 0
    · exact decode_main A c bs W hA hs hc
    · exact decode_sum A c bs W hA hs
  · exact decode_long A n c bs W hA h
end Go.Proofs.Ythjkhambmgepdaa
