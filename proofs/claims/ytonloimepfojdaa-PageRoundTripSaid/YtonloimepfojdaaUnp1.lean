/- Page tables: Unpack. -/
import Derived.Test.YtonloimepfojdaaFx
import Derived.Test.YtonloimepfojdaaOwn
namespace Go.Proofs.Ytonloimepfojdaa
open Go.RowKit
set_option linter.unusedVariables false
def pteC (w v : Int) : List Value := [.bool (decP w v), .bool (decL w v), .int .i64 (decR w v), .int .i64 (decB w v)]
def enN (sz : Nat) (bs : List UInt8) (i : Nat) : Nat := leN (seg bs (i * sz) sz)
def ptes (w : Int) (sz : Nat) (bs : List UInt8) (k : Nat) : List Value := (List.range k).flatMap fun i => pteC w (enN sz bs i)
theorem ptes_succ (w : Int) (sz : Nat) (bs : List UInt8) (k : Nat) : ptes w sz bs (k + 1) = ptes w sz bs k ++ pteC w (enN sz bs k) := by simp [ptes, List.range_succ]
def upOk (w : Int) (bs : List UInt8) : Bool := okw w && decide (bs.length = 4096) && (List.range (4096 / (eb w).toNat)).all (fun i => decOk w (enN (eb w).toNat bs i))
def upE (w : Int) (bs : List UInt8) : Int := if okw w then (if upOk w bs then 0 else 14) else 1
def upN (w : Int) (bs : List UInt8) : Nat := if upOk w bs then 4096 / (eb w).toNat else 0
def upX (w : Int) (bs : List UInt8) : List Value := if upOk w bs then ptes w (eb w).toNat bs (4096 / (eb w).toNat) else []
/-- What the two Unpack hand back. -/
def UpPost (w : Int) (bs : List UInt8) (W : World) (e : Ending) (W' : World) : Prop := ∃ A c, e = .returned (.tuple #[.slice A (upN w bs) c, .int .i64 (upE w bs)]) ∧ IsC W' A (upN w bs) 4 (upX w bs) ∧ Below W.heap.size W W'
theorem up_no {w : Int} {bs : List UInt8} {W W' : World} {E : Int} (h : upOk w bs = false) (hE : upE w bs = E) (hb : Below W.heap.size W W') : UpPost w bs W (.returned (.tuple #[.slice none 0 0, .int .i64 E])) W' := by
  have e1 : upN w bs = 0 := by unfold upN; rw [h]; rfl
  have e2 : upX w bs = [] := by unfold upX; rw [h]; rfl
  exact ⟨none, 0, by rw [e1, hE], by rw [e1, e2]; exact IsC.nil _ _ _, hb⟩
theorem up_yes {w : Int} {bs : List UInt8} {W W' : World} {A : Option Addr} {c M sz : Nat} {xs : List Value} (h : upOk w bs = true) (hw : okw w = true) (hs : (eb w).toNat = sz) (hM : 4096 / sz = M) (hx : ptes w sz bs M = xs) (hA : IsC W' A M 4 xs) (hb : Below W.heap.size W W') : UpPost w bs W (.returned (.tuple #[.slice A M c, .int .i64 0])) W' := by
  have e1 : upN w bs = M := by unfold upN; rw [h, hs, hM]; rfl
  have e2 : upX w bs = xs := by unfold upX; rw [h, hs, hM, hx]; rfl
  have e3 : upE w bs = 0 := by unfold upE; rw [hw, h]; rfl
  exact ⟨A, c, by rw [e1, e3], by rw [e1, e2]; exact hA, hb⟩
theorem up_bad {w : Int} {bs : List UInt8} {i sz M : Nat} (hs : (eb w).toNat = sz) (hM : 4096 / sz = M) (hi : i < M) (h : decOk w (enN sz bs i) = false) : upOk w bs = false := by
  cases hq : upOk w bs
  · rfl
  · unfold upOk at hq
    rw [hs, hM] at hq
    simp only [Bool.and_eq_true] at hq
    have := List.all_eq_true.1 hq.2 i (List.mem_range.2 hi)
    rw [h] at this
    cases this
theorem up_good {w : Int} {bs : List UInt8} {sz M : Nat} (hw : okw w = true) (hl : bs.length = 4096) (hs : (eb w).toNat = sz) (hM : 4096 / sz = M) (h : ∀ i, i < M → decOk w (enN sz bs i) = true) : upOk w bs = true := by
  unfold upOk
  rw [hs, hM, hw, decide_eq_true hl]
  exact List.all_eq_true.2 fun i hi => h i (List.mem_range.1 hi)
theorem up_len {w : Int} {bs : List UInt8} (h : bs.length ≠ 4096) : upOk w bs = false := by
  unfold upOk
  rw [decide_eq_false h, Bool.and_false]
  rfl
theorem fixR_at {bs : List UInt8} {k sz : Nat} (h : k * sz + sz ≤ bs.length) : fixR bs ((k * sz : Nat) : Int) sz = (enN sz bs k, 0) := by
  unfold fixR
  rw [if_neg (by omega)]
  simp only [Int.toNat_natCast]
  rw [if_neg (by omega)]
  rfl
theorem enN_lt (bs : List UInt8) (k sz : Nat) (h : k * sz + sz ≤ bs.length) : enN sz bs k < 256 ^ sz := by
  have := leN_lt (seg bs (k * sz) sz)
  rwa [seg_len h] at this
theorem info_pte : (Try.prog.info? 32).map (fun i => (i.zero, i.size, i.bytes)) = some (some (.agg #[.bool false, .bool false, .int .i64 0, .int .i64 0]), 4, 24) := by kernel_rfl
theorem pteC_one (w v : Int) : ∀ u ∈ pteC w v, u.oneCell' = true := by
  intro u hu
  simp only [pteC, List.mem_cons, List.not_mem_nil, or_false] at hu
  rcases hu with rfl | rfl | rfl | rfl <;> rfl
set_option maxRecDepth 20000 in
set_option maxHeartbeats 8000000 in
theorem unpack_32 (A : Option Addr) (n c : Nat) (bs : List UInt8) (W : World) (hA : IsB W A n bs) (hn1 : n ≤ 1000000) : Calls Try.prog 30 #[.int .i64 32, .slice A n c] W (UpPost 32 bs W) := by
  have l1 : lev 32 = 2 := rfl
  have l2 : ib 32 = 10 := rfl
  have l3 : eb 32 = 4 := rfl
  have l4 : okw 32 = true := rfl
  have HL := Lib.hid hA.1
  have hB0 := Below.refl W.heap.size W
  by_cases h4 : n = 4096
  case neg =>
    have hd : ((n : Int) == 4096) = false := by simp; omega
    have hno : upOk 32 bs = false := up_len (by have := HL.out; omega)
    go_enter Try.func30, Try.ntmps30
    go_wp2_with (go_at_call 10; refine (geom _ _).mono ?_; rintro e w' ⟨rfl, rfl⟩; rw [l1, l2, l3, l4])
    exact bodyPost_ret (v := .tuple #[.slice none 0 0, .int .i64 14]) (by simp [results, Try.results30, go_sem]) rfl (up_no hno (by unfold upE; rw [hno]; rfl) hB0)
  subst h4
  have o0 := OwnR.nil W W.heap.size 32 4
  go_enter Try.func30, Try.ntmps30
  go_upto_region 8 with (go_at_call 10; refine (geom _ _).mono ?_; rintro e w' ⟨rfl, rfl⟩; rw [l1, l2, l3, l4])
  go_loopw [10, 11] (fun outv off wr => ∃ (k : Nat) (A' : Option Addr) (c' : Nat), k ≤ 1024 ∧ off = .int .i64 ((k : Int) * 4) ∧ outv = .slice A' k c' ∧ OwnR wr W.heap.size 32 4 A' k c' (ptes 32 4 bs k) ∧ Hid (∀ i, i < k → decOk 32 (enN 4 bs i) = true) ∧ Below W.heap.size W wr) (fun _ off _ => 4096 - (intOf off).toNat)
  case atStart => exact ⟨0, none, 0, by omega, by go_num, rfl, o0, Lib.hid (fun i hi => by omega), hB0⟩
  case round =>
    clear o0 hB0
    obtain ⟨k, A', c', hk, rfl, rfl, ho, HK, hB⟩ := hrel
    have hA' := hA.below hB
    rcases Nat.lt_or_ge k 1024 with hkM | hkM
    · have hlen := HL.out
      have hR : fixR bs ((k : Int) * 4) 4 = (enN 4 bs k, 0) := by rw [show ((k : Int) * 4) = ((k * 4 : Nat) : Int) by simp]; exact fixR_at (by omega)
      have hv := enN_lt bs k 4 (by omega)
      have hv : enN 4 bs k < 4294967296 := hv
      have hd : decide ((k : Int) * 4 < 4096) = true := by simp; omega
      clear hlen
      go_upto_region 18 with ((go_at_call 40; refine (uint32_01 A 4096 c bs ((k : Int) * 4) wr hA' (by omega) (by omega) (by omega)).mono ?_; rintro e w' ⟨rfl, rfl⟩; rw [hR]))
      clear hR
      cases hok : decOk 32 (enN 4 bs k)
      · have hE : decE 32 (enN 4 bs k) = 14 := by unfold decE; rw [hok]; rfl
        have hno := up_bad (w := 32) (bs := bs) (i := k) (sz := 4) (M := 1024) rfl rfl hkM hok
        go_wp2_with (go_at_call 23; refine (decode 32 _ (by omega) _).mono ?_; rintro e w5 ⟨rfl, hb5⟩; rw [hE])
        exact bodyPost_ret (v := .tuple #[.slice none 0 0, .int .i64 14]) (by simp [results, Try.results30, go_sem]) rfl (up_no hno (by unfold upE; rw [hno]; rfl) ((hB.trans (hb5.mono hB.size)).alloc (by have := hB.size; have := hb5.size; omega) _))
      · have hE : decE 32 (enN 4 bs k) = 0 := by unfold decE; rw [hok]; rfl
        have HOK : Hid (∀ i, i < k + 1 → decOk 32 (enN 4 bs i) = true) := Lib.hid (fun i hi => by
          rcases Nat.lt_or_ge i k with h | h
          · exact HK.out i h
          · obtain rfl : i = k := by omega
            exact hok)
        have HS := Lib.hid (ptes_succ 32 4 bs k)
        clear hok HK
        go_upto_region 21 with (go_at_call 23; refine (decode 32 _ (by omega) _).mono ?_; rintro e w5 ⟨rfl, hb5⟩; rw [hE])
        generalize enN 4 bs k = v at *
        have ho5 := (ho.below hb5).alloc (.cells #[.bool (decP 32 v), .bool (decL 32 v), .int .i64 (decR 32 v), .int .i64 (decB 32 v)] 32)
        have hB5 := hB.trans (hb5.mono hB.size)
        have hB6 := hB5.alloc hB5.size (.cells #[.bool (decP 32 v), .bool (decL 32 v), .int .i64 (decR 32 v), .int .i64 (decB 32 v)] 32)
        have r6 := Row.born w5 32 #[.bool (decP 32 v), .bool (decL 32 v), .int .i64 (decR 32 v), .int .i64 (decB 32 v)]
        generalize w5.alloc (.cells #[.bool (decP 32 v), .bool (decL 32 v), .int .i64 (decR 32 v), .int .i64 (decB 32 v)] 32) = w6 at *
        generalize w5.heap.size = g6 at *
        have hg6 := r6.lt
        have e0 := r6.cell 0
        have e1 := r6.cell 1
        have e2 := r6.cell 2
        have e3 := r6.cell 3
        simp at e0 e1 e2 e3
        have hsz6 := hB6.size
        go_upto_region 9 with ((at_builtin; (refine wp_append_one (P := Try.prog) (news := pteC 32 v) Try.underlying50 info_pte rfl (by omega) (ho5.alloc _) (Row.born _ _ _) rfl (pteC_one _ _) (by omega) (by omega) (by simp; omega) rfl rfl ?_); intro A2 k2 w7 h2 h3 h5))
        rw [← HS.out] at h2
        have hB7 := (hB6.alloc hsz6 _).grown h3 (by simp; omega) (fun z hz => (ho5.ge z hz).1)
        clear ho5 hB5 hB6 r6 e0 e1 e2 e3 h3 h5 ho hB
        go_wp2
        exact ⟨⟨k + 1, A2, k2, by omega, by go_num, rfl, h2, HOK, hB7⟩, by simp [intOf]; omega⟩
    · obtain rfl : k = 1024 := by omega
      have hd : decide (((1024 : Nat) : Int) * 4 < 4096) = false := by simp
      have hyes := up_good (w := 32) (bs := bs) (sz := 4) (M := 1024) rfl (by have := HL.out; omega) rfl rfl HK.out
      go_wp2
      exact bodyPost_ret (v := .tuple #[.slice A' 1024 c', .int .i64 0]) (by simp [results, Try.results30, go_sem]) rfl (up_yes (w := 32) hyes rfl rfl rfl rfl ho.isC hB)
set_option maxRecDepth 20000 in
set_option maxHeartbeats 8000000 in
theorem unpack_39 (A : Option Addr) (n c : Nat) (bs : List UInt8) (W : World) (hA : IsB W A n bs) (hn1 : n ≤ 1000000) : Calls Try.prog 30 #[.int .i64 39, .slice A n c] W (UpPost 39 bs W) := by
  have l1 : lev 39 = 3 := rfl
  have l2 : ib 39 = 9 := rfl
  have l3 : eb 39 = 8 := rfl
  have l4 : okw 39 = true := rfl
  have HL := Lib.hid hA.1
  have hB0 := Below.refl W.heap.size W
  by_cases h4 : n = 4096
  case neg =>
    have hd : ((n : Int) == 4096) = false := by simp; omega
    have hno : upOk 39 bs = false := up_len (by have := HL.out; omega)
    go_enter Try.func30, Try.ntmps30
    go_wp2_with (go_at_call 10; refine (geom _ _).mono ?_; rintro e w' ⟨rfl, rfl⟩; rw [l1, l2, l3, l4])
    exact bodyPost_ret (v := .tuple #[.slice none 0 0, .int .i64 14]) (by simp [results, Try.results30, go_sem]) rfl (up_no hno (by unfold upE; rw [hno]; rfl) hB0)
  subst h4
  have o0 := OwnR.nil W W.heap.size 32 4
  go_enter Try.func30, Try.ntmps30
  go_upto_region 8 with (go_at_call 10; refine (geom _ _).mono ?_; rintro e w' ⟨rfl, rfl⟩; rw [l1, l2, l3, l4])
  go_loopw [10, 11] (fun outv off wr => ∃ (k : Nat) (A' : Option Addr) (c' : Nat), k ≤ 512 ∧ off = .int .i64 ((k : Int) * 8) ∧ outv = .slice A' k c' ∧ OwnR wr W.heap.size 32 4 A' k c' (ptes 39 8 bs k) ∧ Hid (∀ i, i < k → decOk 39 (enN 8 bs i) = true) ∧ Below W.heap.size W wr) (fun _ off _ => 4096 - (intOf off).toNat)
  case atStart => exact ⟨0, none, 0, by omega, by go_num, rfl, o0, Lib.hid (fun i hi => by omega), hB0⟩
  case round =>
    clear o0 hB0
    obtain ⟨k, A', c', hk, rfl, rfl, ho, HK, hB⟩ := hrel
    have hA' := hA.below hB
    rcases Nat.lt_or_ge k 512 with hkM | hkM
    · have hlen := HL.out
      have hR : fixR bs ((k : Int) * 8) 8 = (enN 8 bs k, 0) := by rw [show ((k : Int) * 8) = ((k * 8 : Nat) : Int) by simp]; exact fixR_at (by omega)
      have hv := enN_lt bs k 8 (by omega)
      have hv : enN 8 bs k < 18446744073709551616 := hv
      have hd : decide ((k : Int) * 8 < 4096) = true := by simp; omega
      clear hlen
      go_upto_region 18 with ((go_at_call 41; refine (uint64_01 A 4096 c bs ((k : Int) * 8) wr hA' (by omega) (by omega) (by omega)).mono ?_; rintro e w' ⟨rfl, rfl⟩; rw [hR]))
      clear hR
      cases hok : decOk 39 (enN 8 bs k)
      · have hE : decE 39 (enN 8 bs k) = 14 := by unfold decE; rw [hok]; rfl
        have hno := up_bad (w := 39) (bs := bs) (i := k) (sz := 8) (M := 512) rfl rfl hkM hok
        go_wp2_with (go_at_call 23; refine (decode 39 _ (by omega) _).mono ?_; rintro e w5 ⟨rfl, hb5⟩; rw [hE])
        exact bodyPost_ret (v := .tuple #[.slice none 0 0, .int .i64 14]) (by simp [results, Try.results30, go_sem]) rfl (up_no hno (by unfold upE; rw [hno]; rfl) ((hB.trans (hb5.mono hB.size)).alloc (by have := hB.size; have := hb5.size; omega) _))
      · have hE : decE 39 (enN 8 bs k) = 0 := by unfold decE; rw [hok]; rfl
        have HOK : Hid (∀ i, i < k + 1 → decOk 39 (enN 8 bs i) = true) := Lib.hid (fun i hi => by
          rcases Nat.lt_or_ge i k with h | h
          · exact HK.out i h
          · obtain rfl : i = k := by omega
            exact hok)
        have HS := Lib.hid (ptes_succ 39 8 bs k)
        clear hok HK
        go_upto_region 21 with (go_at_call 23; refine (decode 39 _ (by omega) _).mono ?_; rintro e w5 ⟨rfl, hb5⟩; rw [hE])
        generalize enN 8 bs k = v at *
        have ho5 := (ho.below hb5).alloc (.cells #[.bool (decP 39 v), .bool (decL 39 v), .int .i64 (decR 39 v), .int .i64 (decB 39 v)] 32)
        have hB5 := hB.trans (hb5.mono hB.size)
        have hB6 := hB5.alloc hB5.size (.cells #[.bool (decP 39 v), .bool (decL 39 v), .int .i64 (decR 39 v), .int .i64 (decB 39 v)] 32)
        have r6 := Row.born w5 32 #[.bool (decP 39 v), .bool (decL 39 v), .int .i64 (decR 39 v), .int .i64 (decB 39 v)]
        generalize w5.alloc (.cells #[.bool (decP 39 v), .bool (decL 39 v), .int .i64 (decR 39 v), .int .i64 (decB 39 v)] 32) = w6 at *
        generalize w5.heap.size = g6 at *
        have hg6 := r6.lt
        have e0 := r6.cell 0
        have e1 := r6.cell 1
        have e2 := r6.cell 2
        have e3 := r6.cell 3
        simp at e0 e1 e2 e3
        have hsz6 := hB6.size
        go_upto_region 9 with ((at_builtin; (refine wp_append_one (P := Try.prog) (news := pteC 39 v) Try.underlying50 info_pte rfl (by omega) (ho5.alloc _) (Row.born _ _ _) rfl (pteC_one _ _) (by omega) (by omega) (by simp; omega) rfl rfl ?_); intro A2 k2 w7 h2 h3 h5))
        rw [← HS.out] at h2
        have hB7 := (hB6.alloc hsz6 _).grown h3 (by simp; omega) (fun z hz => (ho5.ge z hz).1)
        clear ho5 hB5 hB6 r6 e0 e1 e2 e3 h3 h5 ho hB
        go_wp2
        exact ⟨⟨k + 1, A2, k2, by omega, by go_num, rfl, h2, HOK, hB7⟩, by simp [intOf]; omega⟩
    · obtain rfl : k = 512 := by omega
      have hd : decide (((512 : Nat) : Int) * 8 < 4096) = false := by simp
      have hyes := up_good (w := 39) (bs := bs) (sz := 8) (M := 512) rfl (by have := HL.out; omega) rfl rfl HK.out
      go_wp2
      exact bodyPost_ret (v := .tuple #[.slice A' 512 c', .int .i64 0]) (by simp [results, Try.results30, go_sem]) rfl (up_yes (w := 39) hyes rfl rfl rfl rfl ho.isC hB)
theorem unpack (w : Int) (A : Option Addr) (n c : Nat) (bs : List UInt8) (W : World) (hA : IsB W A n bs) (hn1 : n ≤ 1000000) : Calls Try.prog 30 #[.int .i64 w, .slice A n c] W (UpPost w bs W) := by
  rcases w_cases w with rfl | rfl | ⟨h1, h2, h3, h4⟩
  · exact unpack_32 A n c bs W hA hn1
  · exact unpack_39 A n c bs W hA hn1
  · have hw := okw_no h3 h4
    have hno : upOk w bs = false := by unfold upOk; rw [hw]; rfl
    go_enter Try.func30, Try.ntmps30
    go_wp2_with (go_at_call 10; refine (geom _ _).mono ?_; rintro e w' ⟨rfl, rfl⟩; rw [hw])
    exact bodyPost_ret (v := .tuple #[.slice none 0 0, .int .i64 1]) (by simp [results, Try.results30, go_sem]) rfl (up_no hno (by unfold upE; rw [hw]; rfl) (Below.refl _ _))
end Go.Proofs.Ytonloimepfojdaa
