/- The walk of PageEntryRoundTrip: it returns true, for every argument, and writes nothing that was there. -/
import Derived.Test.YtonloimepfojdaaLind
import Derived.Test.YtonloimepfojdaaLent
namespace Go.Proofs.Ytonloimepfojdaa
open Go.RowKit
set_option linter.unusedVariables false
structure Rt (w : Int) (leaf : Bool) (R B V : Int) : Prop where
  v : encV w true leaf R B = V
  e : encE w true leaf R B = 0
  p : decP w V = true
  l : decL w V = leaf
  r : decR w V = R
  b : decB w V = B
  d : decE w V = 0
theorem rt (leaf : Bool) (R k : Int) (h0 : 0 ≤ R) (h1 : R ≤ 3) (hl : leaf = true ∨ R = 0) (k0 : 0 ≤ k) (k1 : k < 268435456) :
    ∃ V, 0 ≤ V ∧ V < 4294967296 ∧ Rt 32 leaf R (k * 4096) V ∧ Rt 39 leaf R (k * 4096) V := by
  have ha : aligned (k * 4096) = true := by simp [aligned]; omega
  have hg : encGood true leaf R (k * 4096) = true := by rcases hl with rfl | rfl <;> simp [encGood, ha, h0, h1]
  refine ⟨1 + 4 * R + 16 * k + (if leaf then 2 else 0), by split <;> omega, by split <;> omega, ?_⟩
  have ev : ∀ w, okw w = true → encV w true leaf R (k * 4096) = 1 + 4 * R + 16 * k + (if leaf then 2 else 0) := fun w hw => by
    simp only [encV, hw, hg, Bool.and_self, if_true]; rw [show k * 4096 / 4096 = k from by omega]
  have ee : ∀ w, okw w = true → encE w true leaf R (k * 4096) = 0 := fun w hw => by simp [encE, hw, hg]
  have hb : (1 + 4 * R + 16 * k + (if leaf then 2 else 0)) / 16 = k := by split <;> omega
  have hp : (1 + 4 * R + 16 * k + (if leaf then 2 else 0)) % 2 = 1 := by split <;> omega
  have hr : (1 + 4 * R + 16 * k + (if leaf then 2 else 0)) / 4 % 4 = R := by split <;> omega
  have hL : ((1 + 4 * R + 16 * k + (if leaf then 2 else 0)) / 2 % 2 == 1) = leaf := by cases leaf <;> simp <;> omega
  have hV : 1 + 4 * R + 16 * k + (if leaf then 2 else 0) < 4294967296 := by split <;> omega
  generalize 1 + 4 * R + 16 * k + (if leaf then 2 else 0) = V at *
  have hd : ∀ w, okw w = true → decOk w V = true := fun w hw => by
    have hc : leaf = true ∨ (V / 4 % 4 == 0) = true := by rcases hl with h | h <;> simp [h, hr]
    simp only [decOk, hw, hV, hp, hL]
    rcases hc with h | h <;> simp [h]
  have all : ∀ w, okw w = true → Rt w leaf R (k * 4096) V := fun w hw =>
    ⟨ev w hw, ee w hw, by simp [decP, hd w hw, hp], by simp [decL, hd w hw]; simpa using hL, by simp [decR, hd w hw, hr], by simp [decB, hd w hw, hb], by simp [decE, hd w hw]⟩
  exact ⟨all 32 rfl, all 39 rfl⟩
theorem dec_same (v : Int) : decOk 39 v = decOk 32 v := by simp [decOk, okw]
structure Same (v : Int) : Prop where
  p : decP 39 v = decP 32 v
  l : decL 39 v = decL 32 v
  r : decR 39 v = decR 32 v
  b : decB 39 v = decB 32 v
  e : decE 39 v = decE 32 v
theorem same (v : Int) : Same v := ⟨by simp [decP, dec_same], by simp [decL, dec_same], by simp [decR, dec_same], by simp [decB, dec_same], by simp [decE, dec_same]⟩
theorem back_yes {v : Int} (h0 : 0 ≤ v) (h : decOk 32 v = true) : decE 32 v = 0 ∧ encV 32 (decP 32 v) (decL 32 v) (decR 32 v) (decB 32 v) = v ∧ encE 32 (decP 32 v) (decL 32 v) (decR 32 v) (decB 32 v) = 0 := by
  obtain ⟨h1, h2⟩ := dec_yes h0 h
  have ep : decP 32 v = (v % 2 == 1) := by simp [decP, h]
  have el : decL 32 v = (v / 2 % 2 == 1) := by simp [decL, h]
  have er : decR 32 v = v / 4 % 4 := by simp [decR, h]
  have eb : decB 32 v = v / 16 * 4096 := by simp [decB, h]
  rw [ep, el, er, eb]
  exact ⟨by simp [decE, h], h2, h1⟩
theorem back_no {v : Int} (h : decOk 32 v = false) : decE 32 v = 14 := by simp [decE, h]
set_option maxRecDepth 100000 in
set_option maxHeartbeats 4000000 in
theorem law_rt (leaf : Bool) (r0 b0 v : Int) (h0 : 0 ≤ v) (W : World) :
    Calls Try.prog 6 #[.bool leaf, .int .i64 r0, .int .i64 b0, .int .u64 v] W (True1 W) := by
  have S := Lib.hid (same v)
  cases leaf
  · go_enter Try.func6, Try.ntmps6
    go_wp2_with fail
    refine (place _ _ (by omega) (by omega) _).mono ?_
    rintro e w' ⟨rfl, rfl⟩
    have k0 : 0 ≤ b0 % 268435456 := by omega
    have k1 : b0 % 268435456 < 268435456 := by omega
    generalize b0 % 268435456 = k at *
    obtain ⟨V, V0, V1, A, B⟩ := rt false 0 k (by omega) (by omega) (.inr rfl) k0 k1
    have A := Lib.hid A
    have B := Lib.hid B
    go_wp2_with fail
    refine (encode _ _ _ _ _ _).mono ?_
    rintro e w1 ⟨rfl, hb⟩
    rw [A.out.v, A.out.e]
    obtain ⟨r9, hz1, hB1⟩ := one_new hb
    obtain ⟨⟨c0, c1, c2, c3⟩, f1⟩ := four_cells r9
    clear hb
    go_wp2_with fail
    refine (encode _ _ _ _ _ _).mono ?_
    rintro e w2 ⟨rfl, hb⟩
    rw [B.out.v, B.out.e]
    have r9 := r9.below hb r9.lt
    have hB2 := hB1.trans (hb.mono hB1.size)
    clear c0 c1 c2 c3 f1 hz1 hb
    go_wp2_with fail
    refine (decode _ _ V0 _).mono ?_
    rintro e w3 ⟨rfl, hb⟩
    rw [A.out.p, A.out.l, A.out.r, A.out.b, A.out.d]
    have r9 := r9.below hb r9.lt
    have hB3 := hB2.trans (hb.mono hB2.size)
    clear hb
    go_wp2_with fail
    refine (decode _ _ V0 _).mono ?_
    rintro e w4 ⟨rfl, hb⟩
    rw [B.out.p, B.out.l, B.out.r, B.out.b, B.out.d]
    have r9 := r9.keep hb
    obtain ⟨r14, hz4, hb'⟩ := one_new hb
    have hB4 := hB3.trans (hb'.mono hB3.size)
    have l9 := r9.lt
    obtain ⟨⟨c0, c1, c2, c3⟩, f1⟩ := four_cells r9
    obtain ⟨⟨d0, d1, d2, d3⟩, f2⟩ := four_cells r14
    clear hb hb' r9 r14
    go_wp2_with fail
    refine (decode _ _ h0 _).mono ?_
    rintro e w5 ⟨rfl, hb⟩
    have hB5 := (hB4.alloc hB4.size _).trans (hb.mono (by have := hB4.size; simp; omega))
    clear hb c0 c1 c2 c3 f1 d0 d1 d2 d3 f2
    go_wp2_with fail
    refine (decode _ _ h0 _).mono ?_
    rintro e w6 ⟨rfl, hb⟩
    rw [S.out.p, S.out.l, S.out.r, S.out.b, S.out.e]
    obtain ⟨r18, hz6, hb'⟩ := one_new hb
    have hB6 := hB5.trans (hb'.mono hB5.size)
    obtain ⟨⟨d0, d1, d2, d3⟩, f2⟩ := four_cells r18
    clear hb hb' r18
    cases hd : decOk 32 v
    · have e1 := back_no hd
      go_wp2_with (go_at_call 18; refine (awake_ok _).mono ?_; rintro e w7 ⟨rfl, hb⟩)
      go_ret
      exact ⟨rfl, (hB6.alloc hB6.size _).trans (hb.mono (by have := hB6.size; simp; omega))⟩
    · obtain ⟨e1, e2, e3⟩ := back_yes h0 hd
      go_wp2_with fail
      refine (encode _ _ _ _ _ _).mono ?_
      rintro e w7 ⟨rfl, hb⟩
      rw [e2, e3]
      have hB7 := (hB6.alloc hB6.size _).trans (hb.mono (by have := hB6.size; simp; omega))
      go_wp2_with (go_at_call 18; refine (awake_ok _).mono ?_; rintro e w8 ⟨rfl, hb8⟩)
      go_ret
      exact ⟨rfl, hB7.trans (hb8.mono hB7.size)⟩
  · go_enter Try.func6, Try.ntmps6
    go_wp2_with fail
    refine (place _ _ (by omega) (by omega) _).mono ?_
    rintro e w' ⟨rfl, rfl⟩
    have k0 : 0 ≤ b0 % 268435456 := by omega
    have k1 : b0 % 268435456 < 268435456 := by omega
    generalize b0 % 268435456 = k at *
    go_wp2_with fail
    refine (place _ _ (by omega) (by omega) _).mono ?_
    rintro e w' ⟨rfl, rfl⟩
    have m0 : 0 ≤ r0 % 4 := by omega
    have m1 : r0 % 4 ≤ 3 := by omega
    generalize r0 % 4 = R at *
    obtain ⟨V, V0, V1, A, B⟩ := rt true R k m0 m1 (.inl rfl) k0 k1
    have A := Lib.hid A
    have B := Lib.hid B
    go_wp2_with fail
    refine (encode _ _ _ _ _ _).mono ?_
    rintro e w1 ⟨rfl, hb⟩
    rw [A.out.v, A.out.e]
    obtain ⟨r9, hz1, hB1⟩ := one_new hb
    obtain ⟨⟨c0, c1, c2, c3⟩, f1⟩ := four_cells r9
    clear hb
    go_wp2_with fail
    refine (encode _ _ _ _ _ _).mono ?_
    rintro e w2 ⟨rfl, hb⟩
    rw [B.out.v, B.out.e]
    have r9 := r9.below hb r9.lt
    have hB2 := hB1.trans (hb.mono hB1.size)
    clear c0 c1 c2 c3 f1 hz1 hb
    go_wp2_with fail
    refine (decode _ _ V0 _).mono ?_
    rintro e w3 ⟨rfl, hb⟩
    rw [A.out.p, A.out.l, A.out.r, A.out.b, A.out.d]
    have r9 := r9.below hb r9.lt
    have hB3 := hB2.trans (hb.mono hB2.size)
    clear hb
    go_wp2_with fail
    refine (decode _ _ V0 _).mono ?_
    rintro e w4 ⟨rfl, hb⟩
    rw [B.out.p, B.out.l, B.out.r, B.out.b, B.out.d]
    have r9 := r9.keep hb
    obtain ⟨r14, hz4, hb'⟩ := one_new hb
    have hB4 := hB3.trans (hb'.mono hB3.size)
    have l9 := r9.lt
    obtain ⟨⟨c0, c1, c2, c3⟩, f1⟩ := four_cells r9
    obtain ⟨⟨d0, d1, d2, d3⟩, f2⟩ := four_cells r14
    clear hb hb' r9 r14
    go_wp2_with fail
    refine (decode _ _ h0 _).mono ?_
    rintro e w5 ⟨rfl, hb⟩
    have hB5 := (hB4.alloc hB4.size _).trans (hb.mono (by have := hB4.size; simp; omega))
    clear hb c0 c1 c2 c3 f1 d0 d1 d2 d3 f2
    go_wp2_with fail
    refine (decode _ _ h0 _).mono ?_
    rintro e w6 ⟨rfl, hb⟩
    rw [S.out.p, S.out.l, S.out.r, S.out.b, S.out.e]
    obtain ⟨r18, hz6, hb'⟩ := one_new hb
    have hB6 := hB5.trans (hb'.mono hB5.size)
    obtain ⟨⟨d0, d1, d2, d3⟩, f2⟩ := four_cells r18
    clear hb hb' r18
    cases hd : decOk 32 v
    · have e1 := back_no hd
      go_wp2_with (go_at_call 18; refine (awake_ok _).mono ?_; rintro e w7 ⟨rfl, hb⟩)
      go_ret
      exact ⟨rfl, (hB6.alloc hB6.size _).trans (hb.mono (by have := hB6.size; simp; omega))⟩
    · obtain ⟨e1, e2, e3⟩ := back_yes h0 hd
      go_wp2_with fail
      refine (encode _ _ _ _ _ _).mono ?_
      rintro e w7 ⟨rfl, hb⟩
      rw [e2, e3]
      have hB7 := (hB6.alloc hB6.size _).trans (hb.mono (by have := hB6.size; simp; omega))
      go_wp2_with (go_at_call 18; refine (awake_ok _).mono ?_; rintro e w8 ⟨rfl, hb8⟩)
      go_ret
      exact ⟨rfl, hB7.trans (hb8.mono hB7.size)⟩
theorem walk_rt (leaf : Bool) (r0 b0 v : Int) (_ : (Lit.int .i64 r0).wf = true) (_ : (Lit.int .i64 b0).wf = true) (h : (Lit.int .u64 v).wf = true) (W : World) :
    Calls Try.prog 6 #[.bool leaf, .int .i64 r0, .int .i64 b0, .int .u64 v] W (True1 W) := law_rt leaf r0 b0 v (bounds_u64 h).1 W
end Go.Proofs.Ytonloimepfojdaa
