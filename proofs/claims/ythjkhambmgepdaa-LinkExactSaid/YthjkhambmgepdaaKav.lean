/- Texts Fk, without what this claim does not use. -/
import Derived.Test.YthjkhambmgepdaaKan
import Derived.Test.YthjkhambmgepdaaKat
import Derived.Test.YthjkhambmgepdaaKau
namespace Go.Proofs.Ythjkhambmgepdaa
section
open Go.RowKit
set_option linter.unusedVariables false
set_option linter.unusedSimpArgs false
def DvI (e : LE) (k : Int) (el fl : Bool) (len ack : Int) (p : List UInt8) (W : World) (en : Ending) (W' : World) : Prop :=
  (dvE e k el fl len ack p ≠ 0 ∧ en = .returned (.tuple #[.agg ZE, .slice none 0 0, .bool false, .int .i64 (dvE e k el fl len ack p)]) ∧ Below W.heap.size W W') ∨
  (dvE e k el fl len ack p = 0 ∧ ∃ A c B d M mc, en = .returned (.tuple #[.agg (LEV (dvG e k fl len ack p) A c B d), .slice M (dvM e k fl len p).length mc, .bool (dvC e k fl len p), .int .i64 0]) ∧
    HeldI W' W.heap.size W'.heap.size (dvG e k fl len ack p) A c B d ∧ OwnB W' W.heap.size 5 M (dvM e k fl len p).length mc (dvM e k fl len p) ∧ Below W.heap.size W W')
theorem DvP.dvI {e : LE} {k : Int} {el fl : Bool} {len ack : Int} {p : List UInt8} {W W' : World} {en : Ending} (h : DvP e k el fl len ack p W en W') : DvI e k el fl len ack p W en W' := by
  rcases h with h | ⟨h, A, c, B, d, M, mc, h1, h2, h3, h4⟩
  · exact .inl h
  · exact .inr ⟨h, A, c, B, d, M, mc, h1, h2.heldI, h3, h4⟩
def akB (k : Int) (el fl : Bool) (len ack : Int) (p : List UInt8) : Bool := k == 2 && (el == false && (fl == false && (len == 0 && (ack == ack && p == z56))))
theorem ln_1 {el fl : Bool} {len : Int} {p : List UInt8} : lnE 1 el fl len p = 0 ↔ (0 ≤ len ∧ len ≤ 56) ∧ clr len p = true := by
  unfold lnE lnOk1 lnOk2
  by_cases h1 : 0 ≤ len <;> by_cases h2 : len ≤ 56 <;> cases h3 : clr len p <;> simp [h1, h2]
theorem ln_2 {el fl : Bool} {len : Int} {p : List UInt8} : lnE 2 el fl len p = 0 ↔ len = 0 ∧ el = false ∧ fl = false ∧ clr len p = true := by
  unfold lnE lnOk1 lnOk2
  by_cases h1 : len = 0
  · subst h1
    cases el <;> cases fl <;> cases h3 : clr 0 p <;> simp
  · have hb : (len == 0) = false := beq_eq_false_iff_ne.2 h1
    by_cases h2 : 0 ≤ len <;> by_cases h3 : len ≤ 56 <;> simp [hb, h1, h2, h3]
theorem ln_k {k : Int} {el fl : Bool} {len : Int} {p : List UInt8} (h : lnE k el fl len p = 0) : k = 1 ∨ k = 2 := by
  unfold lnE at h
  by_cases h1 : lnOk1 k len = true
  · unfold lnOk1 at h1
    simp at h1
    omega
  · rw [if_neg h1] at h
    omega
theorem want_neg {e : LE} (hve : VE e) : decide (e.want < 0) = (e.want == -1) := by
  have h := hve.part
  unfold partOk at h
  by_cases hw : e.want = -1
  · rw [hw]; rfl
  · rw [if_neg hw] at h
    have h9 : e.pt.length < e.want ∧ (52 : Int) ≤ e.pt.length := by
      simp only [Bool.and_eq_true, decide_eq_true_eq] at h
      have := cutB_yes h.2
      omega
    rw [decide_eq_false (by omega), beq_eq_false_iff_ne.2 hw]
theorem du_iff {e : LE} (hve : VE e) {el fl : Bool} {len : Int} {p : List UInt8} : duB e el fl len p = true ↔ (lnE 1 el fl len p = 0 ∧ acD e el fl len p = true) := by
  have h4 : (len == 4 + min (acH p : Int) 52) = (len - 4 == min (acH p : Int) 52) := by
    generalize min (acH p : Int) 52 = M
    rw [Bool.eq_iff_iff, beq_iff_eq, beq_iff_eq]
    omega
  rw [ln_1]
  unfold duB acD
  rw [want_neg hve, h4]
  simp only [Bool.and_eq_true, decide_eq_true_eq]
  constructor
  · rintro ⟨⟨⟨⟨⟨a, b⟩, c⟩, d⟩, e⟩, f⟩
    exact ⟨⟨⟨c, d⟩, e⟩, ⟨⟨⟨a, b⟩, c⟩, d⟩, f⟩
  · rintro ⟨⟨⟨c, d⟩, e⟩, ⟨⟨⟨⟨a, b⟩, -⟩, -⟩, f⟩⟩
    exact ⟨⟨⟨⟨⟨a, b⟩, c⟩, d⟩, e⟩, f⟩
theorem z56_of {p : List UInt8} (hp : p.length = 56) (h : clr 0 p = true) : p = z56 := by
  unfold clr at h
  apply List.ext_getElem (by rw [hp]; rfl)
  intro i h1 h2
  have h3 := List.all_eq_true.1 h p[i] (by rw [show (0 : Int).toNat = 0 from rfl, List.drop_zero]; exact List.getElem_mem h1)
  have h4 : p[i] = 0 := by simpa using h3
  rw [h4]
  exact (List.getElem_replicate (a := (0 : UInt8)) (n := 56) h2).symm
theorem ak_iff {k : Int} {el fl : Bool} {len ack : Int} {p : List UInt8} (hp : p.length = 56) : akB k el fl len ack p = true ↔ (k = 2 ∧ lnE k el fl len p = 0) := by
  unfold akB
  constructor
  · intro h
    simp only [Bool.and_eq_true, beq_iff_eq] at h
    obtain ⟨rfl, rfl, rfl, rfl, -, rfl⟩ := h
    exact ⟨rfl, ln_2.2 ⟨rfl, rfl, rfl, by decide⟩⟩
  · rintro ⟨rfl, h⟩
    obtain ⟨rfl, rfl, rfl, h9⟩ := ln_2.1 h
    rw [z56_of hp h9]
    simp
section
variable {e : LE} {k : Int} {el fl : Bool} {len ack : Int} {p : List UInt8}
theorem dvr_no66 (hv : vE e = true) (hp : p.length = 56) (hd : k = 1 → duB e el fl len p = false) (hak : akB k el fl len ack p = false) : dvE e k el fl len ack p = 66 := by
  unfold dvE
  rw [if_pos hv]
  by_cases hE : lnE k el fl len p = 0
  · rw [if_pos hE]
    rcases ln_k hE with rfl | rfl
    · have h1 : acD e el fl len p = false := by
        cases h : acD e el fl len p
        · rfl
        · have := (du_iff (vE_yes hv)).2 ⟨hE, h⟩
          rw [hd rfl] at this
          exact absurd this (by decide)
      rw [h1]
      split <;> simp
    · have := (ak_iff (ack := ack) hp).2 ⟨rfl, hE⟩
      rw [hak] at this
      exact absurd this (by decide)
  · rw [if_neg hE]
theorem ak_mv (hv : vE e = true) : akE e.n e.s e.a ack = if mv ack e.a ≤ e.s - e.a then 0 else 66 := by
  unfold akE
  rw [if_pos (vE_yes hv).vs]
theorem dv_err (hv : vE e = true) (he : akE e.n e.s e.a ack ≠ 0) : dvE e k el fl len ack p = 66 := by
  rw [ak_mv hv] at he
  have hm : ¬ mv ack e.a ≤ e.s - e.a := fun h => he (by rw [if_pos h])
  unfold dvE
  rw [if_pos hv, if_neg hm]
  split <;> rfl
theorem dv_okE (hv : vE e = true) (he : akE e.n e.s e.a ack = 0) (hE : lnE k el fl len p = 0) : dvE e k el fl len ack p = if k = 1 then (if acD e el fl len p then (if e.rc = 4611686018427387904 then 15 else 0) else 66) else 0 := by
  rw [ak_mv hv] at he
  have hm : mv ack e.a ≤ e.s - e.a := by
    by_cases h : mv ack e.a ≤ e.s - e.a
    · exact h
    · rw [if_neg h] at he; omega
  unfold dvE
  rw [if_pos hv, if_pos hE, if_pos hm]
theorem ak_ok3 (hv : vE e = true) (he : akE e.n e.s e.a ack = 0) : akN e.n e.s e.a ack = e.n ∧ akS e.n e.s e.a ack = e.s ∧ akA e.n e.s e.a ack = e.a + mv ack e.a := by
  rw [ak_mv hv] at he
  have hm : mv ack e.a ≤ e.s - e.a := by
    by_cases h : mv ack e.a ≤ e.s - e.a
    · exact h
    · rw [if_neg h] at he; omega
  have h : akOk e.n e.s e.a ack = true := by unfold akOk; simp [(vE_yes hv).vs, hm]
  unfold akN akS akA
  rw [h]
  exact ⟨rfl, rfl, rfl⟩
end
theorem due_is {e : LE} {A B : Option Addr} {c d : Nat} {k : Int} {el fl : Bool} {len ack : Int} {p : List UInt8} {b : Bool} (h : duB e el fl len p = b) (ht : e.ty) (hv : vE e = true) (hl : p.length = 56) (W : World) : Calls Try.prog 109 #[.agg (LEV e A c B d), .agg (LV k el fl len ack p)] W (fun en W' => en = .returned (.bool b) ∧ Below W.heap.size W W') := by
  refine (due e A B c d k el fl len ack p W ht (vE_yes hv) hl).mono ?_
  rintro en W' ⟨h1, h2⟩
  exact ⟨by rw [h1, h], h2⟩
theorem ackR_is {n s a k x y z E : Int} (h : akN n s a k = x ∧ akS n s a k = y ∧ akA n s a k = z ∧ akE n s a k = E) (hs : 0 ≤ s) (hs1 : s < 18446744073709551616) (ha : 0 ≤ a) (k0 : 0 ≤ k) (k1 : k < 65536) (W : World) :
    Calls Try.prog 35 #[.agg #[.int .i64 n, .int .u64 s, .int .u64 a], .int .u16 k] W (fun en W' => en = .returned (.tuple #[.agg #[.int .i64 x, .int .u64 y, .int .u64 z], .int .i64 E]) ∧ Below W.heap.size W W') := by
  obtain ⟨rfl, rfl, rfl, rfl⟩ := h
  exact ack_ref_any n s a k hs hs1 ha k0 k1 W
set_option maxRecDepth 100000 in
set_option maxHeartbeats 8000000 in
theorem dvr_v (e : LE) (A B : Option Addr) (c d : Nat) (k : Int) (el fl : Bool) (len ack : Int) (p : List UInt8) (W : World) (ht : e.ty) (hH : Held W e A c B d) (hl : p.length = 56) (ha : 0 ≤ ack ∧ ack < 65536) (hv : vE e = false) : Calls Try.prog 52 #[.agg (LEV e A c B d), .agg (LV k el fl len ack p)] W (DvI e k el fl len ack p W) := by
  have HE := Lib.hid (show dvE e k el fl len ack p = 74 by simp [dvE, hv])
  have HV := Lib.hid hv
  clear hv
  obtain ⟨r1, r2, r3, hB2⟩ := three_born W 69 40 69 (LEV e A c B d) (LV k el fl len ack p) ZE
  go_enter Try.func52, Try.ntmps52
  go_upto_region 1 with (fail)
  change Code.wp _ _ _ _ (((W.alloc (.cells (LEV e A c B d) 69)).alloc (.cells (LV k el fl len ack p) 40)).alloc (.cells ZE 69))
  generalize ((W.alloc (.cells (LEV e A c B d) 69)).alloc (.cells (LV k el fl len ack p) 40)).alloc (.cells ZE 69) = w1 at *
  have hH1 := hH.below hB2
  go_wp2_with (first | ((with_reducible refine wp_load_g ?_ r1.range Try.underlying69 rfl (lev_info _ _ _ _ _) ?_ ?_); rfl; rfl) | (go_at_call 106; (with_reducible refine (end_is HV.out ht hH1).mono ?_); rintro en w2 ⟨rfl, hb2⟩; have r1 := r1.below hb2 r1.lt; have r2 := r2.below hb2 r2.lt; have r3 := r3.below hb2 r3.lt; have hB2 := hB2.trans (hb2.mono hB2.size)) | ((with_reducible refine wp_row_store (L := ZE) r3 rfl ze_info ze_one ?_ ?_ ?_); rfl; rfl; intro w9 u9 r9))
  refine bodyPost_ret (results_cttt rfl rfl r9 Try.underlying69 rfl ze_info) rfl ?_
  exact .inl ⟨by rw [HE.out]; decide, by rw [HE.out]; rfl, Upd.below hB2 u9 (by omega)⟩
section
variable {e : LE} {k : Int} {el fl : Bool} {len ack : Int} {p : List UInt8}
theorem dv_ok1 (hv : vE e = true) (hk : k = 1) (hdu : duB e el fl len p = true) (he : akE e.n e.s e.a ack = 0) : dvE e k el fl len ack p = if e.rc = 4611686018427387904 then 15 else 0 := by
  subst hk
  obtain ⟨h1, h2⟩ := (du_iff (vE_yes hv)).1 hdu
  rw [dv_okE hv he h1, if_pos rfl, if_pos h2]
theorem dv_ok2 (hv : vE e = true) (hp : p.length = 56) (hk : k ≠ 1) (hak : akB k el fl len ack p = true) (he : akE e.n e.s e.a ack = 0) : dvE e k el fl len ack p = 0 := by
  obtain ⟨-, h2⟩ := (ak_iff hp).1 hak
  rw [dv_okE hv he h2, if_neg hk]
end
/-- Deliver's region in which the line's bytes are put behind the part. -/
def DrS (W w0 : World) (g gr gl mid : Nat) (X : Value → Array Value) (V0 : Value) (LL : Array Value) (A : Option Addr) (n cq : Nat) (q : List (List UInt8)) (N : Nat) (bs : List UInt8) (c : Nat) (us : Nat → Value) (w' : World) : Prop :=
  Below W.heap.size W w' ∧ QI w' W.heap.size mid A n cq q ∧ Row w' gr 69 ZE ∧ Row w' gl 40 LL ∧ (c = 0 → w' = w0) ∧ (c ≤ 1 → Row w' g 69 (X V0)) ∧ (c = 1 → ∃ B' d', us 7 = .slice B' N d' ∧ OwnB w' mid 5 B' N d' bs) ∧ (2 ≤ c → ∃ B' d', Row w' g 69 (X (.slice B' N d')) ∧ OwnB w' mid 5 B' N d' bs)
theorem DrS.loc {W w0 : World} {g gr gl mid : Nat} {X : Value → Array Value} {V0 : Value} {LL : Array Value} {A : Option Addr} {n cq : Nat} {q : List (List UInt8)} {N : Nat} {bs : List UInt8} {ops : Array Oper} : ∀ c us us' w, (∀ k, mayAt ops [7, 9] c k = false ∨ k ∈ [7, 9].take c → us k = us' k) → DrS W w0 g gr gl mid X V0 LL A n cq q N bs c us w → DrS W w0 g gr gl mid X V0 LL A n cq q N bs c us' w := by
  intro c us us' w hk ⟨a, b, d, e, f, h, i, j⟩
  refine ⟨a, b, d, e, f, h, fun hc => ?_, j⟩
  rw [← hk 7 (.inr (by subst hc; simp))]
  exact i hc
section
variable {W w0 w9 w' : World} {g gr gl mid : Nat} {X : Value → Array Value} {V0 : Value} {LL : Array Value} {A : Option Addr} {n cq : Nat} {q : List (List UInt8)} {N : Nat} {bs : List UInt8} {us : Nat → Value}
theorem DrS.one (h : DrS W w0 g gr gl mid X V0 LL A n cq q N bs 0 us w9) {B B' : Option Addr} {m d d' : Nat} {bs0 : List UInt8} (ho0 : OwnB w9 mid 5 B m d bs0) (hW : W.heap.size ≤ mid) (ho : OwnB w' mid 5 B' N d' bs) (hb : Below mid w9 w') (hg : w9.grownBy w' (Value.slice B m d).ownBlock) :
    DrS W w0 g gr gl mid X V0 LL A n cq q N bs 1 (fun k => if k = 7 then .slice B' N d' else us k) w' := by
  obtain ⟨a, b, d1, e, f, h1, -, -⟩ := h
  have hk := Keeps.grown (ts := [5]) hg (OwnV.typed (size := 1) ho0)
  exact ⟨a.trans (hb.mono hW), b.grown hg (fun x hx => (OwnV.ge (size := 1) ho0 x hx).1), hk.row d1 (by decide), hk.row e (by decide), fun h => by omega, fun _ => hk.row (h1 (by omega)) (by decide), fun _ => ⟨B', d', by simp, ho⟩, fun h => by omega⟩
theorem DrS.two (h : DrS W w0 g gr gl mid X V0 LL A n cq q N bs 1 us w9) {B' : Option Addr} {d' : Nat} (hu : us 7 = .slice B' N d') (ho : OwnB w9 mid 5 B' N d' bs) (hX : ∀ v u, (X v).setIfInBounds 8 u = X u) (hWg : W.heap.size ≤ g) (h1 : gr ≠ g) (h2 : gl ≠ g) : DrS W w0 g gr gl mid X V0 LL A n cq q N bs 2 us (w9.setCell ⟨g, 8, none⟩ (.slice B' N d')) := by
  obtain ⟨a, b, d1, e, f, h3, -, -⟩ := h
  have hr := h3 (by omega)
  have u := Upd.setCell w9 g 8 (.slice B' N d')
  have hk := Keeps.upd (ts := [69]) u hr (by simp)
  have hr2 := hr.set 8 (.slice B' N d')
  rw [hX] at hr2
  exact ⟨Upd.below a u hWg, b.keeps hk (by decide) (by decide), d1.upd u h1, e.upd u h2, fun h => by omega, fun h => by omega, fun h => by omega, fun _ => ⟨B', d', hr2, ho.keeps hk (by decide)⟩⟩
end
set_option maxRecDepth 100000 in
set_option maxHeartbeats 8000000 in
theorem dvr_bad1 (e : LE) (A B : Option Addr) (c d : Nat) (k : Int) (el fl : Bool) (len ack : Int) (p : List UInt8) (W : World) (ht : e.ty) (hH : Held W e A c B d) (hl : p.length = 56) (ha : 0 ≤ ack ∧ ack < 65536) (hv : vE e = true) (hk : k = 1) (hdu : duB e el fl len p = false) (hak : akB k el fl len ack p = false) : Calls Try.prog 52 #[.agg (LEV e A c B d), .agg (LV k el fl len ack p)] W (DvI e k el fl len ack p W) := by
  have HE := Lib.hid (show dvE e k el fl len ack p = 66 from dvr_no66 hv hl (fun _ => hdu) hak)
  obtain ⟨x1, x2, x3, E, hx⟩ : ∃ x1 x2 x3 E, akN e.n e.s e.a ack = x1 ∧ akS e.n e.s e.a ack = x2 ∧ akA e.n e.s e.a ack = x3 ∧ akE e.n e.s e.a ack = E := ⟨_, _, _, _, rfl, rfl, rfl, rfl⟩
  have HV := Lib.hid hv
  have d9 : (k == 1) = true := by rw [hk]; rfl
  have HEQ : ∀ w : World, (Op.equalIn 10000 40 (.agg (LV k el fl len ack p)) (.agg (LV 2 false false 0 ack z56))).run Try.prog w = .ok false w := fun w => by
    rw [eq_line w k 2 el false fl false len 0 ack ack p z56 hl z56_len]
    exact congrArg (fun b => Result.ok b w) hak
  have HDU := Lib.hid hdu
  clear hdu
  have HAK := Lib.hid (show akN e.n e.s e.a ack = x1 ∧ akS e.n e.s e.a ack = x2 ∧ akA e.n e.s e.a ack = x3 ∧ akE e.n e.s e.a ack = E from by exact hx)
  clear hv hak hk
  clear hx
  obtain ⟨r1, r2, r3, hB2⟩ := three_born W 69 40 69 (LEV e A c B d) (LV k el fl len ack p) ZE
  go_enter Try.func52, Try.ntmps52
  go_upto_region 1 with (fail)
  change Code.wp _ _ _ _ (((W.alloc (.cells (LEV e A c B d) 69)).alloc (.cells (LV k el fl len ack p) 40)).alloc (.cells ZE 69))
  generalize ((W.alloc (.cells (LEV e A c B d) 69)).alloc (.cells (LV k el fl len ack p) 40)).alloc (.cells ZE 69) = w1 at *
  have hH1 := hH.below hB2
  go_upto_region 3 with (first | ((with_reducible refine wp_load_g ?_ r1.range Try.underlying69 rfl (lev_info _ _ _ _ _) ?_ ?_); rfl; rfl) | (go_at_call 106; (with_reducible refine (end_is HV.out ht hH1).mono ?_); rintro en w2 ⟨rfl, hb2⟩; have r1 := r1.below hb2 r1.lt; have r2 := r2.below hb2 r2.lt; have r3 := r3.below hb2 r3.lt; have hB2 := hB2.trans (hb2.mono hB2.size)))
  clear hH1
  obtain ⟨l0, l1, l2, l3, l4⟩ := line_cells r2
  obtain ⟨⟨c0, c1, c2, c3, c4⟩, ⟨c5, c6, c7, c8, c9⟩, fz⟩ := end_cells r1
  go_upto_region 5 with (first | ((with_reducible refine wp_load_g ?_ r1.range Try.underlying69 rfl (lev_info _ _ _ _ _) ?_ ?_); rfl; rfl) | ((with_reducible refine wp_load_g ?_ r2.range Try.underlying40 rfl (line_info _ _ _ _ _ hl) ?_ ?_); rfl; rfl) | (go_at_call 109; (with_reducible refine (due_is HDU.out ht HV.out hl _).mono ?_); rintro en w3 ⟨rfl, hb3⟩; have r1 := r1.below hb3 r1.lt; have r2 := r2.below hb3 r2.lt; have r3 := r3.below hb3 r3.lt; have hB2 := hB2.trans (hb3.mono hB2.size); obtain ⟨l0, l1, l2, l3, l4⟩ := line_cells r2; obtain ⟨⟨c0, c1, c2, c3, c4⟩, ⟨c5, c6, c7, c8, c9⟩, fz⟩ := end_cells r1) | ((with_reducible refine wp_eql_g ?_ guard40 (HEQ _) ?_ ?_ ?_); rfl; rfl; rfl))
  go_upto_region 6 with ((go_at_call 35; (with_reducible refine (ackR_is HAK.out ht.s0 ht.s1 ht.a0 ha.1 ha.2 _).mono ?_); rintro en w5 ⟨rfl, hb5⟩; have r1 := r1.below hb5 r1.lt; have r2 := r2.below hb5 r2.lt; have r3 := r3.below hb5 r3.lt; have hB2 := hB2.trans (hb5.mono hB2.size)))
  have hal := (Below.refl w5.heap.size w5).alloc (Nat.le_refl _) (.cells #[.int .i64 x1, .int .u64 x2, .int .u64 x3] 27)
  have r9 := Row.born w5 27 #[.int .i64 x1, .int .u64 x2, .int .u64 x3]
  have hg9 : W.heap.size + 2 < w5.heap.size := r3.lt
  have r1 := r1.below hal r1.lt
  have r2 := r2.below hal r2.lt
  have r3 := r3.below hal r3.lt
  have hB2 := hB2.trans (hal.mono hB2.size)
  clear hal c0 c1 c2 c3 c4 c5 c6 c7 c8 c9 fz l0 l1 l2 l3 l4
  generalize w5.alloc (.cells #[.int .i64 x1, .int .u64 x2, .int .u64 x3] 27) = w6 at *
  generalize w5.heap.size = g9 at *
  obtain ⟨l0, l1, l2, l3, l4⟩ := line_cells r2
  obtain ⟨⟨c0, c1, c2, c3, c4⟩, ⟨c5, c6, c7, c8, c9⟩, fz⟩ := end_cells r1
  go_wp2_with (((with_reducible refine wp_row_store (L := ZE) r3 rfl ze_info ze_one ?_ ?_ ?_); rfl; rfl; intro w9 u9 r9))
  refine bodyPost_ret (results_cttt rfl rfl r9 Try.underlying69 rfl ze_info) rfl ?_
  exact .inl ⟨by rw [HE.out]; decide, by rw [HE.out]; rfl, Upd.below hB2 u9 (by omega)⟩
set_option maxRecDepth 100000 in
set_option maxHeartbeats 8000000 in
theorem dvr_bad2 (e : LE) (A B : Option Addr) (c d : Nat) (k : Int) (el fl : Bool) (len ack : Int) (p : List UInt8) (W : World) (ht : e.ty) (hH : Held W e A c B d) (hl : p.length = 56) (ha : 0 ≤ ack ∧ ack < 65536) (hv : vE e = true) (hk : k ≠ 1) (hak : akB k el fl len ack p = false) : Calls Try.prog 52 #[.agg (LEV e A c B d), .agg (LV k el fl len ack p)] W (DvI e k el fl len ack p W) := by
  have HE := Lib.hid (show dvE e k el fl len ack p = 66 from dvr_no66 hv hl (fun h => absurd h hk) hak)
  obtain ⟨x1, x2, x3, E, hx⟩ : ∃ x1 x2 x3 E, akN e.n e.s e.a ack = x1 ∧ akS e.n e.s e.a ack = x2 ∧ akA e.n e.s e.a ack = x3 ∧ akE e.n e.s e.a ack = E := ⟨_, _, _, _, rfl, rfl, rfl, rfl⟩
  have HV := Lib.hid hv
  have d9 : (k == 1) = false := beq_eq_false_iff_ne.2 hk
  have HEQ : ∀ w : World, (Op.equalIn 10000 40 (.agg (LV k el fl len ack p)) (.agg (LV 2 false false 0 ack z56))).run Try.prog w = .ok false w := fun w => by
    rw [eq_line w k 2 el false fl false len 0 ack ack p z56 hl z56_len]
    exact congrArg (fun b => Result.ok b w) hak
  have HAK := Lib.hid (show akN e.n e.s e.a ack = x1 ∧ akS e.n e.s e.a ack = x2 ∧ akA e.n e.s e.a ack = x3 ∧ akE e.n e.s e.a ack = E from by exact hx)
  clear hv hak hk
  clear hx
  obtain ⟨r1, r2, r3, hB2⟩ := three_born W 69 40 69 (LEV e A c B d) (LV k el fl len ack p) ZE
  go_enter Try.func52, Try.ntmps52
  go_upto_region 1 with (fail)
  change Code.wp _ _ _ _ (((W.alloc (.cells (LEV e A c B d) 69)).alloc (.cells (LV k el fl len ack p) 40)).alloc (.cells ZE 69))
  generalize ((W.alloc (.cells (LEV e A c B d) 69)).alloc (.cells (LV k el fl len ack p) 40)).alloc (.cells ZE 69) = w1 at *
  have hH1 := hH.below hB2
  go_upto_region 3 with (first | ((with_reducible refine wp_load_g ?_ r1.range Try.underlying69 rfl (lev_info _ _ _ _ _) ?_ ?_); rfl; rfl) | (go_at_call 106; (with_reducible refine (end_is HV.out ht hH1).mono ?_); rintro en w2 ⟨rfl, hb2⟩; have r1 := r1.below hb2 r1.lt; have r2 := r2.below hb2 r2.lt; have r3 := r3.below hb2 r3.lt; have hB2 := hB2.trans (hb2.mono hB2.size)))
  clear hH1
  obtain ⟨l0, l1, l2, l3, l4⟩ := line_cells r2
  obtain ⟨⟨c0, c1, c2, c3, c4⟩, ⟨c5, c6, c7, c8, c9⟩, fz⟩ := end_cells r1
  go_upto_region 5 with (first | ((with_reducible refine wp_load_g ?_ r1.range Try.underlying69 rfl (lev_info _ _ _ _ _) ?_ ?_); rfl; rfl) | ((with_reducible refine wp_load_g ?_ r2.range Try.underlying40 rfl (line_info _ _ _ _ _ hl) ?_ ?_); rfl; rfl) | (go_at_call 109; (with_reducible refine (due_is HDU.out ht HV.out hl _).mono ?_); rintro en w3 ⟨rfl, hb3⟩; have r1 := r1.below hb3 r1.lt; have r2 := r2.below hb3 r2.lt; have r3 := r3.below hb3 r3.lt; have hB2 := hB2.trans (hb3.mono hB2.size); obtain ⟨l0, l1, l2, l3, l4⟩ := line_cells r2; obtain ⟨⟨c0, c1, c2, c3, c4⟩, ⟨c5, c6, c7, c8, c9⟩, fz⟩ := end_cells r1) | ((with_reducible refine wp_eql_g ?_ guard40 (HEQ _) ?_ ?_ ?_); rfl; rfl; rfl))
  go_upto_region 6 with ((go_at_call 35; (with_reducible refine (ackR_is HAK.out ht.s0 ht.s1 ht.a0 ha.1 ha.2 _).mono ?_); rintro en w5 ⟨rfl, hb5⟩; have r1 := r1.below hb5 r1.lt; have r2 := r2.below hb5 r2.lt; have r3 := r3.below hb5 r3.lt; have hB2 := hB2.trans (hb5.mono hB2.size)))
  have hal := (Below.refl w5.heap.size w5).alloc (Nat.le_refl _) (.cells #[.int .i64 x1, .int .u64 x2, .int .u64 x3] 27)
  have r9 := Row.born w5 27 #[.int .i64 x1, .int .u64 x2, .int .u64 x3]
  have hg9 : W.heap.size + 2 < w5.heap.size := r3.lt
  have r1 := r1.below hal r1.lt
  have r2 := r2.below hal r2.lt
  have r3 := r3.below hal r3.lt
  have hB2 := hB2.trans (hal.mono hB2.size)
  clear hal c0 c1 c2 c3 c4 c5 c6 c7 c8 c9 fz l0 l1 l2 l3 l4
  generalize w5.alloc (.cells #[.int .i64 x1, .int .u64 x2, .int .u64 x3] 27) = w6 at *
  generalize w5.heap.size = g9 at *
  obtain ⟨l0, l1, l2, l3, l4⟩ := line_cells r2
  obtain ⟨⟨c0, c1, c2, c3, c4⟩, ⟨c5, c6, c7, c8, c9⟩, fz⟩ := end_cells r1
  go_wp2_with (((with_reducible refine wp_row_store (L := ZE) r3 rfl ze_info ze_one ?_ ?_ ?_); rfl; rfl; intro w9 u9 r9))
  refine bodyPost_ret (results_cttt rfl rfl r9 Try.underlying69 rfl ze_info) rfl ?_
  exact .inl ⟨by rw [HE.out]; decide, by rw [HE.out]; rfl, Upd.below hB2 u9 (by omega)⟩
set_option maxRecDepth 100000 in
set_option maxHeartbeats 8000000 in
theorem dvr_err1 (e : LE) (A B : Option Addr) (c d : Nat) (k : Int) (el fl : Bool) (len ack : Int) (p : List UInt8) (W : World) (ht : e.ty) (hH : Held W e A c B d) (hl : p.length = 56) (ha : 0 ≤ ack ∧ ack < 65536) (hv : vE e = true) (hk : k = 1) (hdu : duB e el fl len p = true) (hak : akB k el fl len ack p = false) (he : akE e.n e.s e.a ack ≠ 0) : Calls Try.prog 52 #[.agg (LEV e A c B d), .agg (LV k el fl len ack p)] W (DvI e k el fl len ack p W) := by
  have HE := Lib.hid (show dvE e k el fl len ack p = 66 from dv_err hv he)
  obtain ⟨x1, x2, x3, E, hx⟩ : ∃ x1 x2 x3 E, akN e.n e.s e.a ack = x1 ∧ akS e.n e.s e.a ack = x2 ∧ akA e.n e.s e.a ack = x3 ∧ akE e.n e.s e.a ack = E := ⟨_, _, _, _, rfl, rfl, rfl, rfl⟩
  have d8 : (E != 0) = true := by rw [bne_iff_ne, ← hx.2.2.2]; exact he
  clear he
  have HV := Lib.hid hv
  have d9 : (k == 1) = true := by rw [hk]; rfl
  have HEQ : ∀ w : World, (Op.equalIn 10000 40 (.agg (LV k el fl len ack p)) (.agg (LV 2 false false 0 ack z56))).run Try.prog w = .ok false w := fun w => by
    rw [eq_line w k 2 el false fl false len 0 ack ack p z56 hl z56_len]
    exact congrArg (fun b => Result.ok b w) hak
  have HDU := Lib.hid hdu
  clear hdu
  have HAK := Lib.hid (show akN e.n e.s e.a ack = x1 ∧ akS e.n e.s e.a ack = x2 ∧ akA e.n e.s e.a ack = x3 ∧ akE e.n e.s e.a ack = E from by exact hx)
  clear hv hak hk
  clear hx
  obtain ⟨r1, r2, r3, hB2⟩ := three_born W 69 40 69 (LEV e A c B d) (LV k el fl len ack p) ZE
  go_enter Try.func52, Try.ntmps52
  go_upto_region 1 with (fail)
  change Code.wp _ _ _ _ (((W.alloc (.cells (LEV e A c B d) 69)).alloc (.cells (LV k el fl len ack p) 40)).alloc (.cells ZE 69))
  generalize ((W.alloc (.cells (LEV e A c B d) 69)).alloc (.cells (LV k el fl len ack p) 40)).alloc (.cells ZE 69) = w1 at *
  have hH1 := hH.below hB2
  go_upto_region 3 with (first | ((with_reducible refine wp_load_g ?_ r1.range Try.underlying69 rfl (lev_info _ _ _ _ _) ?_ ?_); rfl; rfl) | (go_at_call 106; (with_reducible refine (end_is HV.out ht hH1).mono ?_); rintro en w2 ⟨rfl, hb2⟩; have r1 := r1.below hb2 r1.lt; have r2 := r2.below hb2 r2.lt; have r3 := r3.below hb2 r3.lt; have hB2 := hB2.trans (hb2.mono hB2.size)))
  clear hH1
  obtain ⟨l0, l1, l2, l3, l4⟩ := line_cells r2
  obtain ⟨⟨c0, c1, c2, c3, c4⟩, ⟨c5, c6, c7, c8, c9⟩, fz⟩ := end_cells r1
  go_upto_region 5 with (first | ((with_reducible refine wp_load_g ?_ r1.range Try.underlying69 rfl (lev_info _ _ _ _ _) ?_ ?_); rfl; rfl) | ((with_reducible refine wp_load_g ?_ r2.range Try.underlying40 rfl (line_info _ _ _ _ _ hl) ?_ ?_); rfl; rfl) | (go_at_call 109; (with_reducible refine (due_is HDU.out ht HV.out hl _).mono ?_); rintro en w3 ⟨rfl, hb3⟩; have r1 := r1.below hb3 r1.lt; have r2 := r2.below hb3 r2.lt; have r3 := r3.below hb3 r3.lt; have hB2 := hB2.trans (hb3.mono hB2.size); obtain ⟨l0, l1, l2, l3, l4⟩ := line_cells r2; obtain ⟨⟨c0, c1, c2, c3, c4⟩, ⟨c5, c6, c7, c8, c9⟩, fz⟩ := end_cells r1) | ((with_reducible refine wp_eql_g ?_ guard40 (HEQ _) ?_ ?_ ?_); rfl; rfl; rfl))
  go_upto_region 6 with ((go_at_call 35; (with_reducible refine (ackR_is HAK.out ht.s0 ht.s1 ht.a0 ha.1 ha.2 _).mono ?_); rintro en w5 ⟨rfl, hb5⟩; have r1 := r1.below hb5 r1.lt; have r2 := r2.below hb5 r2.lt; have r3 := r3.below hb5 r3.lt; have hB2 := hB2.trans (hb5.mono hB2.size)))
  have hal := (Below.refl w5.heap.size w5).alloc (Nat.le_refl _) (.cells #[.int .i64 x1, .int .u64 x2, .int .u64 x3] 27)
  have r9 := Row.born w5 27 #[.int .i64 x1, .int .u64 x2, .int .u64 x3]
  have hg9 : W.heap.size + 2 < w5.heap.size := r3.lt
  have r1 := r1.below hal r1.lt
  have r2 := r2.below hal r2.lt
  have r3 := r3.below hal r3.lt
  have hB2 := hB2.trans (hal.mono hB2.size)
  clear hal c0 c1 c2 c3 c4 c5 c6 c7 c8 c9 fz l0 l1 l2 l3 l4
  generalize w5.alloc (.cells #[.int .i64 x1, .int .u64 x2, .int .u64 x3] 27) = w6 at *
  generalize w5.heap.size = g9 at *
  obtain ⟨l0, l1, l2, l3, l4⟩ := line_cells r2
  obtain ⟨⟨c0, c1, c2, c3, c4⟩, ⟨c5, c6, c7, c8, c9⟩, fz⟩ := end_cells r1
  go_wp2_with (((with_reducible refine wp_row_store (L := ZE) r3 rfl ze_info ze_one ?_ ?_ ?_); rfl; rfl; intro w9 u9 r9))
  refine bodyPost_ret (results_cttt rfl rfl r9 Try.underlying69 rfl ze_info) rfl ?_
  exact .inl ⟨by rw [HE.out]; decide, by rw [HE.out]; rfl, Upd.below hB2 u9 (by omega)⟩
set_option maxRecDepth 100000 in
set_option maxHeartbeats 8000000 in
theorem dvr_err2 (e : LE) (A B : Option Addr) (c d : Nat) (k : Int) (el fl : Bool) (len ack : Int) (p : List UInt8) (W : World) (ht : e.ty) (hH : Held W e A c B d) (hl : p.length = 56) (ha : 0 ≤ ack ∧ ack < 65536) (hv : vE e = true) (hk : k ≠ 1) (hak : akB k el fl len ack p = true) (he : akE e.n e.s e.a ack ≠ 0) : Calls Try.prog 52 #[.agg (LEV e A c B d), .agg (LV k el fl len ack p)] W (DvI e k el fl len ack p W) := by
  have HE := Lib.hid (show dvE e k el fl len ack p = 66 from dv_err hv he)
  obtain ⟨x1, x2, x3, E, hx⟩ : ∃ x1 x2 x3 E, akN e.n e.s e.a ack = x1 ∧ akS e.n e.s e.a ack = x2 ∧ akA e.n e.s e.a ack = x3 ∧ akE e.n e.s e.a ack = E := ⟨_, _, _, _, rfl, rfl, rfl, rfl⟩
  have d8 : (E != 0) = true := by rw [bne_iff_ne, ← hx.2.2.2]; exact he
  clear he
  have HV := Lib.hid hv
  have d9 : (k == 1) = false := beq_eq_false_iff_ne.2 hk
  have HEQ : ∀ w : World, (Op.equalIn 10000 40 (.agg (LV k el fl len ack p)) (.agg (LV 2 false false 0 ack z56))).run Try.prog w = .ok true w := fun w => by
    rw [eq_line w k 2 el false fl false len 0 ack ack p z56 hl z56_len]
    exact congrArg (fun b => Result.ok b w) hak
  have HAK := Lib.hid (show akN e.n e.s e.a ack = x1 ∧ akS e.n e.s e.a ack = x2 ∧ akA e.n e.s e.a ack = x3 ∧ akE e.n e.s e.a ack = E from by exact hx)
  clear hv hak hk
  clear hx
  obtain ⟨r1, r2, r3, hB2⟩ := three_born W 69 40 69 (LEV e A c B d) (LV k el fl len ack p) ZE
  go_enter Try.func52, Try.ntmps52
  go_upto_region 1 with (fail)
  change Code.wp _ _ _ _ (((W.alloc (.cells (LEV e A c B d) 69)).alloc (.cells (LV k el fl len ack p) 40)).alloc (.cells ZE 69))
  generalize ((W.alloc (.cells (LEV e A c B d) 69)).alloc (.cells (LV k el fl len ack p) 40)).alloc (.cells ZE 69) = w1 at *
  have hH1 := hH.below hB2
  go_upto_region 3 with (first | ((with_reducible refine wp_load_g ?_ r1.range Try.underlying69 rfl (lev_info _ _ _ _ _) ?_ ?_); rfl; rfl) | (go_at_call 106; (with_reducible refine (end_is HV.out ht hH1).mono ?_); rintro en w2 ⟨rfl, hb2⟩; have r1 := r1.below hb2 r1.lt; have r2 := r2.below hb2 r2.lt; have r3 := r3.below hb2 r3.lt; have hB2 := hB2.trans (hb2.mono hB2.size)))
  clear hH1
  obtain ⟨l0, l1, l2, l3, l4⟩ := line_cells r2
  obtain ⟨⟨c0, c1, c2, c3, c4⟩, ⟨c5, c6, c7, c8, c9⟩, fz⟩ := end_cells r1
  go_upto_region 5 with (first | ((with_reducible refine wp_load_g ?_ r1.range Try.underlying69 rfl (lev_info _ _ _ _ _) ?_ ?_); rfl; rfl) | ((with_reducible refine wp_load_g ?_ r2.range Try.underlying40 rfl (line_info _ _ _ _ _ hl) ?_ ?_); rfl; rfl) | (go_at_call 109; (with_reducible refine (due_is HDU.out ht HV.out hl _).mono ?_); rintro en w3 ⟨rfl, hb3⟩; have r1 := r1.below hb3 r1.lt; have r2 := r2.below hb3 r2.lt; have r3 := r3.below hb3 r3.lt; have hB2 := hB2.trans (hb3.mono hB2.size); obtain ⟨l0, l1, l2, l3, l4⟩ := line_cells r2; obtain ⟨⟨c0, c1, c2, c3, c4⟩, ⟨c5, c6, c7, c8, c9⟩, fz⟩ := end_cells r1) | ((with_reducible refine wp_eql_g ?_ guard40 (HEQ _) ?_ ?_ ?_); rfl; rfl; rfl))
  go_upto_region 6 with ((go_at_call 35; (with_reducible refine (ackR_is HAK.out ht.s0 ht.s1 ht.a0 ha.1 ha.2 _).mono ?_); rintro en w5 ⟨rfl, hb5⟩; have r1 := r1.below hb5 r1.lt; have r2 := r2.below hb5 r2.lt; have r3 := r3.below hb5 r3.lt; have hB2 := hB2.trans (hb5.mono hB2.size)))
  have hal := (Below.refl w5.heap.size w5).alloc (Nat.le_refl _) (.cells #[.int .i64 x1, .int .u64 x2, .int .u64 x3] 27)
  have r9 := Row.born w5 27 #[.int .i64 x1, .int .u64 x2, .int .u64 x3]
  have hg9 : W.heap.size + 2 < w5.heap.size := r3.lt
  have r1 := r1.below hal r1.lt
  have r2 := r2.below hal r2.lt
  have r3 := r3.below hal r3.lt
  have hB2 := hB2.trans (hal.mono hB2.size)
  clear hal c0 c1 c2 c3 c4 c5 c6 c7 c8 c9 fz l0 l1 l2 l3 l4
  generalize w5.alloc (.cells #[.int .i64 x1, .int .u64 x2, .int .u64 x3] 27) = w6 at *
  generalize w5.heap.size = g9 at *
  obtain ⟨l0, l1, l2, l3, l4⟩ := line_cells r2
  obtain ⟨⟨c0, c1, c2, c3, c4⟩, ⟨c5, c6, c7, c8, c9⟩, fz⟩ := end_cells r1
  go_wp2_with (((with_reducible refine wp_row_store (L := ZE) r3 rfl ze_info ze_one ?_ ?_ ?_); rfl; rfl; intro w9 u9 r9))
  refine bodyPost_ret (results_cttt rfl rfl r9 Try.underlying69 rfl ze_info) rfl ?_
  exact .inl ⟨by rw [HE.out]; decide, by rw [HE.out]; rfl, Upd.below hB2 u9 (by omega)⟩
set_option maxRecDepth 100000 in
set_option maxHeartbeats 8000000 in
theorem dvr_lim (e : LE) (A B : Option Addr) (c d : Nat) (k : Int) (el fl : Bool) (len ack : Int) (p : List UInt8) (W : World) (ht : e.ty) (hH : Held W e A c B d) (hl : p.length = 56) (ha : 0 ≤ ack ∧ ack < 65536) (hv : vE e = true) (hk : k = 1) (hdu : duB e el fl len p = true) (hak : akB k el fl len ack p = false) (he : akE e.n e.s e.a ack = 0) (hrc : e.rc = 4611686018427387904) : Calls Try.prog 52 #[.agg (LEV e A c B d), .agg (LV k el fl len ack p)] W (DvI e k el fl len ack p W) := by
  have HE := Lib.hid (show dvE e k el fl len ack p = 15 by rw [dv_ok1 hv hk hdu he, if_pos hrc])
  have d8 : (e.rc == 4611686018427387904) = true := by rw [beq_iff_eq]; exact hrc
  obtain ⟨a2, ha2⟩ : ∃ a2, e.a + mv ack e.a = a2 := ⟨_, rfl⟩
  have HV := Lib.hid hv
  have d9 : (k == 1) = true := by rw [hk]; rfl
  have HEQ : ∀ w : World, (Op.equalIn 10000 40 (.agg (LV k el fl len ack p)) (.agg (LV 2 false false 0 ack z56))).run Try.prog w = .ok false w := fun w => by
    rw [eq_line w k 2 el false fl false len 0 ack ack p z56 hl z56_len]
    exact congrArg (fun b => Result.ok b w) hak
  have HDU := Lib.hid hdu
  clear hdu
  have HAK := Lib.hid (show akN e.n e.s e.a ack = e.n ∧ akS e.n e.s e.a ack = e.s ∧ akA e.n e.s e.a ack = a2 ∧ akE e.n e.s e.a ack = 0 from by rw [(ak_ok3 hv he).1, (ak_ok3 hv he).2.1, (ak_ok3 hv he).2.2, he, ha2]; exact ⟨rfl, rfl, rfl, rfl⟩)
  clear hv hak hk
  clear hrc he ha2
  obtain ⟨r1, r2, r3, hB2⟩ := three_born W 69 40 69 (LEV e A c B d) (LV k el fl len ack p) ZE
  go_enter Try.func52, Try.ntmps52
  go_upto_region 1 with (fail)
  change Code.wp _ _ _ _ (((W.alloc (.cells (LEV e A c B d) 69)).alloc (.cells (LV k el fl len ack p) 40)).alloc (.cells ZE 69))
  generalize ((W.alloc (.cells (LEV e A c B d) 69)).alloc (.cells (LV k el fl len ack p) 40)).alloc (.cells ZE 69) = w1 at *
  have hH1 := hH.below hB2
  go_upto_region 3 with (first | ((with_reducible refine wp_load_g ?_ r1.range Try.underlying69 rfl (lev_info _ _ _ _ _) ?_ ?_); rfl; rfl) | (go_at_call 106; (with_reducible refine (end_is HV.out ht hH1).mono ?_); rintro en w2 ⟨rfl, hb2⟩; have r1 := r1.below hb2 r1.lt; have r2 := r2.below hb2 r2.lt; have r3 := r3.below hb2 r3.lt; have hB2 := hB2.trans (hb2.mono hB2.size)))
  clear hH1
  obtain ⟨l0, l1, l2, l3, l4⟩ := line_cells r2
  obtain ⟨⟨c0, c1, c2, c3, c4⟩, ⟨c5, c6, c7, c8, c9⟩, fz⟩ := end_cells r1
  go_upto_region 5 with (first | ((with_reducible refine wp_load_g ?_ r1.range Try.underlying69 rfl (lev_info _ _ _ _ _) ?_ ?_); rfl; rfl) | ((with_reducible refine wp_load_g ?_ r2.range Try.underlying40 rfl (line_info _ _ _ _ _ hl) ?_ ?_); rfl; rfl) | (go_at_call 109; (with_reducible refine (due_is HDU.out ht HV.out hl _).mono ?_); rintro en w3 ⟨rfl, hb3⟩; have r1 := r1.below hb3 r1.lt; have r2 := r2.below hb3 r2.lt; have r3 := r3.below hb3 r3.lt; have hB2 := hB2.trans (hb3.mono hB2.size); obtain ⟨l0, l1, l2, l3, l4⟩ := line_cells r2; obtain ⟨⟨c0, c1, c2, c3, c4⟩, ⟨c5, c6, c7, c8, c9⟩, fz⟩ := end_cells r1) | ((with_reducible refine wp_eql_g ?_ guard40 (HEQ _) ?_ ?_ ?_); rfl; rfl; rfl))
  go_upto_region 6 with ((go_at_call 35; (with_reducible refine (ackR_is HAK.out ht.s0 ht.s1 ht.a0 ha.1 ha.2 _).mono ?_); rintro en w5 ⟨rfl, hb5⟩; have r1 := r1.below hb5 r1.lt; have r2 := r2.below hb5 r2.lt; have r3 := r3.below hb5 r3.lt; have hB2 := hB2.trans (hb5.mono hB2.size)))
  have hal := (Below.refl w5.heap.size w5).alloc (Nat.le_refl _) (.cells #[.int .i64 e.n, .int .u64 e.s, .int .u64 a2] 27)
  have r9 := Row.born w5 27 #[.int .i64 e.n, .int .u64 e.s, .int .u64 a2]
  have hg9 : W.heap.size + 2 < w5.heap.size := r3.lt
  have r1 := r1.below hal r1.lt
  have r2 := r2.below hal r2.lt
  have r3 := r3.below hal r3.lt
  have hB2 := hB2.trans (hal.mono hB2.size)
  clear hal c0 c1 c2 c3 c4 c5 c6 c7 c8 c9 fz l0 l1 l2 l3 l4
  generalize w5.alloc (.cells #[.int .i64 e.n, .int .u64 e.s, .int .u64 a2] 27) = w6 at *
  generalize w5.heap.size = g9 at *
  obtain ⟨l0, l1, l2, l3, l4⟩ := line_cells r2
  obtain ⟨⟨c0, c1, c2, c3, c4⟩, ⟨c5, c6, c7, c8, c9⟩, fz⟩ := end_cells r1
  go_wp2_with (((with_reducible refine wp_row_store (L := ZE) r3 rfl ze_info ze_one ?_ ?_ ?_); rfl; rfl; intro w9 u9 r9))
  refine bodyPost_ret (results_cttt rfl rfl r9 Try.underlying69 rfl ze_info) rfl ?_
  exact .inl ⟨by rw [HE.out]; decide, by rw [HE.out]; rfl, Upd.below hB2 u9 (by omega)⟩
set_option maxRecDepth 100000 in
set_option maxHeartbeats 8000000 in
theorem dvr_oka (e : LE) (A B : Option Addr) (c d : Nat) (k : Int) (el fl : Bool) (len ack : Int) (p : List UInt8) (W : World) (ht : e.ty) (hH : Held W e A c B d) (hl : p.length = 56) (ha : 0 ≤ ack ∧ ack < 65536) (hv : vE e = true) (hk : k ≠ 1) (hak : akB k el fl len ack p = true) (he : akE e.n e.s e.a ack = 0) : Calls Try.prog 52 #[.agg (LEV e A c B d), .agg (LV k el fl len ack p)] W (DvI e k el fl len ack p W) := by
  have HE := Lib.hid (dv_ok2 hv hl hk hak he)
  have HC := Lib.hid (show dvC e k fl len p = false by unfold dvC; rw [decide_eq_false hk]; rfl)
  have HM := Lib.hid (show dvM e k fl len p = [] by unfold dvM; rw [HC.out]; rfl)
  obtain ⟨a2, ha2⟩ : ∃ a2, e.a + mv ack e.a = a2 := ⟨_, rfl⟩
  have HG := Lib.hid (show dvG e k fl len ack p = { e with a := a2 } by unfold dvG; rw [if_neg hk, ha2])
  have HV := Lib.hid hv
  have d9 : (k == 1) = false := beq_eq_false_iff_ne.2 hk
  have HEQ : ∀ w : World, (Op.equalIn 10000 40 (.agg (LV k el fl len ack p)) (.agg (LV 2 false false 0 ack z56))).run Try.prog w = .ok true w := fun w => by
    rw [eq_line w k 2 el false fl false len 0 ack ack p z56 hl z56_len]
    exact congrArg (fun b => Result.ok b w) hak
  have HAK := Lib.hid (show akN e.n e.s e.a ack = e.n ∧ akS e.n e.s e.a ack = e.s ∧ akA e.n e.s e.a ack = a2 ∧ akE e.n e.s e.a ack = 0 from by rw [(ak_ok3 hv he).1, (ak_ok3 hv he).2.1, (ak_ok3 hv he).2.2, he, ha2]; exact ⟨rfl, rfl, rfl, rfl⟩)
  clear hv hak hk
  clear he ha2
  obtain ⟨r1, r2, r3, hB2⟩ := three_born W 69 40 69 (LEV e A c B d) (LV k el fl len ack p) ZE
  go_enter Try.func52, Try.ntmps52
  go_upto_region 1 with (fail)
  change Code.wp _ _ _ _ (((W.alloc (.cells (LEV e A c B d) 69)).alloc (.cells (LV k el fl len ack p) 40)).alloc (.cells ZE 69))
  generalize ((W.alloc (.cells (LEV e A c B d) 69)).alloc (.cells (LV k el fl len ack p) 40)).alloc (.cells ZE 69) = w1 at *
  have hH1 := hH.below hB2
  go_upto_region 3 with (first | ((with_reducible refine wp_load_g ?_ r1.range Try.underlying69 rfl (lev_info _ _ _ _ _) ?_ ?_); rfl; rfl) | (go_at_call 106; (with_reducible refine (end_is HV.out ht hH1).mono ?_); rintro en w2 ⟨rfl, hb2⟩; have r1 := r1.below hb2 r1.lt; have r2 := r2.below hb2 r2.lt; have r3 := r3.below hb2 r3.lt; have hB2 := hB2.trans (hb2.mono hB2.size)))
  clear hH1
  obtain ⟨l0, l1, l2, l3, l4⟩ := line_cells r2
  obtain ⟨⟨c0, c1, c2, c3, c4⟩, ⟨c5, c6, c7, c8, c9⟩, fz⟩ := end_cells r1
  go_upto_region 5 with (first | ((with_reducible refine wp_load_g ?_ r1.range Try.underlying69 rfl (lev_info _ _ _ _ _) ?_ ?_); rfl; rfl) | ((with_reducible refine wp_load_g ?_ r2.range Try.underlying40 rfl (line_info _ _ _ _ _ hl) ?_ ?_); rfl; rfl) | (go_at_call 109; (with_reducible refine (due_is HDU.out ht HV.out hl _).mono ?_); rintro en w3 ⟨rfl, hb3⟩; have r1 := r1.below hb3 r1.lt; have r2 := r2.below hb3 r2.lt; have r3 := r3.below hb3 r3.lt; have hB2 := hB2.trans (hb3.mono hB2.size); obtain ⟨l0, l1, l2, l3, l4⟩ := line_cells r2; obtain ⟨⟨c0, c1, c2, c3, c4⟩, ⟨c5, c6, c7, c8, c9⟩, fz⟩ := end_cells r1) | ((with_reducible refine wp_eql_g ?_ guard40 (HEQ _) ?_ ?_ ?_); rfl; rfl; rfl))
  go_upto_region 6 with ((go_at_call 35; (with_reducible refine (ackR_is HAK.out ht.s0 ht.s1 ht.a0 ha.1 ha.2 _).mono ?_); rintro en w5 ⟨rfl, hb5⟩; have r1 := r1.below hb5 r1.lt; have r2 := r2.below hb5 r2.lt; have r3 := r3.below hb5 r3.lt; have hB2 := hB2.trans (hb5.mono hB2.size)))
  have hal := (Below.refl w5.heap.size w5).alloc (Nat.le_refl _) (.cells #[.int .i64 e.n, .int .u64 e.s, .int .u64 a2] 27)
  have r9 := Row.born w5 27 #[.int .i64 e.n, .int .u64 e.s, .int .u64 a2]
  have hg9 : W.heap.size + 2 < w5.heap.size := r3.lt
  have r1 := r1.below hal r1.lt
  have r2 := r2.below hal r2.lt
  have r3 := r3.below hal r3.lt
  have hB2 := hB2.trans (hal.mono hB2.size)
  clear hal c0 c1 c2 c3 c4 c5 c6 c7 c8 c9 fz l0 l1 l2 l3 l4
  generalize w5.alloc (.cells #[.int .i64 e.n, .int .u64 e.s, .int .u64 a2] 27) = w6 at *
  generalize w5.heap.size = g9 at *
  obtain ⟨l0, l1, l2, l3, l4⟩ := line_cells r2
  obtain ⟨⟨c0, c1, c2, c3, c4⟩, ⟨c5, c6, c7, c8, c9⟩, fz⟩ := end_cells r1
  have hH6 := hH.below hB2
  go_upto_region 11 with (first | ((with_reducible refine wp_load_g ?_ r1.range Try.underlying69 rfl (lev_info _ _ _ _ _) ?_ ?_); rfl; rfl) | (go_at_call 47; (with_reducible refine (copyT e A B c d _ ht hH6).mono ?_); rintro en w7 ⟨A4, c4x, B4, d4x, mid, rfl, -, hqi, hp4, hmid, hb7⟩) | ((with_reducible refine wp_row_store (L := LEV e A4 c4x B4 d4x) (Row.bornAt (g := w7.heap.size) rfl 69 _) ?_ (lev_info _ _ _ _ _) (lev_one _ _ _ _ _) ?_ ?_ ?_); rfl; rfl; rfl; intro w8 v8 r5))
  have hal := Upd.below ((Below.refl w7.heap.size w7).alloc (Nat.le_refl _) (.cells ZE 69)) v8 (Nat.le_refl _)
  have hbl := hb7.trans (hal.mono hb7.size)
  have hg9' := r9.lt
  have hgg : g9 < w7.heap.size := Nat.lt_of_lt_of_le hg9' hb7.size
  have r1 := r1.below hbl r1.lt
  have r2 := r2.below hbl r2.lt
  have r3 := r3.below hbl r3.lt
  have r9 := r9.below hbl r9.lt
  have hqi := (hqi.below hal).lower hB2.size
  have hp4 := hp4.below hal
  have hmid := Nat.le_trans hB2.size hmid
  have hB := hB2.trans (hbl.mono hB2.size)
  clear hal hbl hb7 v8 hH6 hB2 hg9' c0 c1 c2 c3 c4 c5 c6 c7 c8 c9 fz l0 l1 l2 l3 l4
  generalize w7.heap.size = g at *
  have q0 : w8.cell? ⟨g9, 0, none⟩ = some (.int .i64 e.n) := r9.cell 0
  have q1 : w8.cell? ⟨g9, 1, none⟩ = some (.int .u64 e.s) := r9.cell 1
  have q2 : w8.cell? ⟨g9, 2, none⟩ = some (.int .u64 a2) := r9.cell 2
  go_upto_region 12 with ((refine wp_put_mid (pre := []) (cs := [.int .i64 e.n, .int .u64 e.s, .int .u64 e.a]) (post := [.int .i64 e.rn, .int .u64 e.rc, .slice A4 e.q.length c4x, .int .i64 e.off, .int .i64 e.want, .slice B4 e.pt.length d4x, .int .u64 e.told]) (L := #[.int .i64 e.n, .int .u64 e.s, .int .u64 a2]) r5 rfl rfl info27 (sender_one _ _ _) ?_ ?_ ?_; rfl; rfl; intro wa ua ra))
  clear q0 q1 q2
  have r5' : Row wa g 69 (LEV { e with a := a2 } A4 c4x B4 d4x) := ra
  have r2 := r2.upd ua (by omega)
  have r3 := r3.upd ua (by omega)
  have hqi := hqi.keeps (Keeps.upd (ts := [69]) ua r5 (by simp)) (by decide) (by decide)
  have hp4 := hp4.keeps (Keeps.upd (ts := [69]) ua r5 (by simp)) (by decide)
  have hB := Upd.below hB ua (by omega)
  clear r5 ua ra r9 r1
  have r5 := r5'
  clear r5'
  obtain ⟨l0, l1, l2, l3, l4⟩ := line_cells r2
  go_wp2_with (first | ((with_reducible refine wp_load_g ?_ r5.range Try.underlying69 rfl (lev_info _ _ _ _ _) ?_ ?_); rfl; rfl) | ((with_reducible refine wp_row_store (L := LEV { e with a := a2 } A4 c4x B4 d4x) r3 rfl (lev_info _ _ _ _ _) (lev_one _ _ _ _ _) ?_ ?_ ?_); rfl; rfl; intro w9 u9 rr9))
  have k9 := Keeps.upd (ts := [69]) u9 r3 (by simp)
  refine bodyPost_ret (results_cttt rfl rfl rr9 Try.underlying69 rfl (lev_info _ _ _ _ _)) rfl ?_
  refine .inr ⟨HE.out, A4, c4x, B4, d4x, none, 0, by rw [HG.out, HM.out, HC.out]; rfl, ?_, by rw [HM.out]; exact OwnB.nil _ _ _, Upd.below hB u9 (by omega)⟩
  rw [HG.out]
  exact QI.heldI (e := { e with a := a2 }) (hqi.keeps k9 (by decide) (by decide)) ((hp4.lower hmid).keeps k9 (by decide))
set_option maxRecDepth 100000 in
set_option maxHeartbeats 8000000 in
theorem dvr_dF0 (e : LE) (A B : Option Addr) (c d : Nat) (k : Int) (el : Bool) (b : Nat) (ack : Int) (p : List UInt8) (W : World) (ht : e.ty) (hH : Held W e A c B d) (hl : p.length = 56) (ha : 0 ≤ ack ∧ ack < 65536) (hv : vE e = true) (hk : k = 1) (hdu : duB e el true ((b : Int) + 4) p = true) (hak : akB k el true ((b : Int) + 4) ack p = false) (he : akE e.n e.s e.a ack = 0) (hrc : e.rc ≠ 4611686018427387904) (hb : b = 52) (hh : acH p ≤ 1048576) (hH2 : 52 < acH p) (hp0 : e.pt.length = 0) : Calls Try.prog 52 #[.agg (LEV e A c B d), .agg (LV k el true ((b : Int) + 4) ack p)] W (DvI e k el true ((b : Int) + 4) ack p W) := by
  have HE := Lib.hid (show dvE e k el true ((b : Int) + 4) ack p = 0 by rw [dv_ok1 hv hk hdu he, if_neg hrc])
  have hvr := (vE_yes hv).vr
  have hr9 : e.rc ≤ 4611686018427387904 := by unfold vr at hvr; simp at hvr; omega
  have hpl := ht.pl
  have HP := Lib.hid (show acP e true ((b : Int) + 4) p = e.pt ++ ((p.take (b + 4)).drop 4) by simp [acP, acB]; rfl)
  have HPl := Lib.hid (show (e.pt ++ ((p.take (b + 4)).drop 4)).length = e.pt.length + b by simp; omega)
  have hwnt := ht.w1
  have HA := Lib.hid (show acE e true ((b : Int) + 4) p = false by unfold acE; rw [HP.out, HPl.out]; show decide ((acH p : Int) ≤ _) = _; exact decide_eq_false (by omega))
  have HC := Lib.hid (show dvC e k true ((b : Int) + 4) p = false by unfold dvC; rw [decide_eq_true hk, HA.out]; rfl)
  have HM := Lib.hid (show dvM e k true ((b : Int) + 4) p = [] by unfold dvM; rw [HC.out]; rfl)
  obtain ⟨a2, ha2⟩ : ∃ a2, e.a + mv ack e.a = a2 := ⟨_, rfl⟩
  have HG := Lib.hid (show dvG e k true ((b : Int) + 4) ack p = { e with a := a2, rc := e.rc + 1, want := (acH p : Int), pt := e.pt ++ ((p.take (b + 4)).drop 4) } by unfold dvG; rw [if_pos hk, ha2, HA.out, HP.out]; rfl)
  have d8 : (e.rc == 4611686018427387904) = false := beq_eq_false_iff_ne.2 hrc
  have HV := Lib.hid hv
  have d9 : (k == 1) = true := by rw [hk]; rfl
  have HEQ : ∀ w : World, (Op.equalIn 10000 40 (.agg (LV k el true ((b : Int) + 4) ack p)) (.agg (LV 2 false false 0 ack z56))).run Try.prog w = .ok false w := fun w => by
    rw [eq_line w k 2 el false true false ((b : Int) + 4) 0 ack ack p z56 hl z56_len]
    exact congrArg (fun b => Result.ok b w) hak
  have HDU := Lib.hid hdu
  clear hdu
  have HAK := Lib.hid (show akN e.n e.s e.a ack = e.n ∧ akS e.n e.s e.a ack = e.s ∧ akA e.n e.s e.a ack = a2 ∧ akE e.n e.s e.a ack = 0 from by rw [(ak_ok3 hv he).1, (ak_ok3 hv he).2.1, (ak_ok3 hv he).2.2, he, ha2]; exact ⟨rfl, rfl, rfl, rfl⟩)
  clear hv hak hk
  clear he ha2 hrc hvr
  have hM56 : b ≤ 52 := by omega
  have hN2 := hb
  have HN2 := Lib.hid hN2
  have HP0 := Lib.hid hp0
  clear hp0
  clear hN2 hb
  obtain ⟨r1, r2, r3, hB2⟩ := three_born W 69 40 69 (LEV e A c B d) (LV k el true ((b : Int) + 4) ack p) ZE
  go_enter Try.func52, Try.ntmps52
  go_upto_region 1 with (fail)
  change Code.wp _ _ _ _ (((W.alloc (.cells (LEV e A c B d) 69)).alloc (.cells (LV k el true ((b : Int) + 4) ack p) 40)).alloc (.cells ZE 69))
  generalize ((W.alloc (.cells (LEV e A c B d) 69)).alloc (.cells (LV k el true ((b : Int) + 4) ack p) 40)).alloc (.cells ZE 69) = w1 at *
  have hH1 := hH.below hB2
  go_upto_region 3 with (first | ((with_reducible refine wp_load_g ?_ r1.range Try.underlying69 rfl (lev_info _ _ _ _ _) ?_ ?_); rfl; rfl) | (go_at_call 106; (with_reducible refine (end_is HV.out ht hH1).mono ?_); rintro en w2 ⟨rfl, hb2⟩; have r1 := r1.below hb2 r1.lt; have r2 := r2.below hb2 r2.lt; have r3 := r3.below hb2 r3.lt; have hB2 := hB2.trans (hb2.mono hB2.size)))
  clear hH1
  obtain ⟨l0, l1, l2, l3, l4⟩ := line_cells r2
  obtain ⟨⟨c0, c1, c2, c3, c4⟩, ⟨c5, c6, c7, c8, c9⟩, fz⟩ := end_cells r1
  go_upto_region 5 with (first | ((with_reducible refine wp_load_g ?_ r1.range Try.underlying69 rfl (lev_info _ _ _ _ _) ?_ ?_); rfl; rfl) | ((with_reducible refine wp_load_g ?_ r2.range Try.underlying40 rfl (line_info _ _ _ _ _ hl) ?_ ?_); rfl; rfl) | (go_at_call 109; (with_reducible refine (due_is HDU.out ht HV.out hl _).mono ?_); rintro en w3 ⟨rfl, hb3⟩; have r1 := r1.below hb3 r1.lt; have r2 := r2.below hb3 r2.lt; have r3 := r3.below hb3 r3.lt; have hB2 := hB2.trans (hb3.mono hB2.size); obtain ⟨l0, l1, l2, l3, l4⟩ := line_cells r2; obtain ⟨⟨c0, c1, c2, c3, c4⟩, ⟨c5, c6, c7, c8, c9⟩, fz⟩ := end_cells r1) | ((with_reducible refine wp_eql_g ?_ guard40 (HEQ _) ?_ ?_ ?_); rfl; rfl; rfl))
  go_upto_region 6 with ((go_at_call 35; (with_reducible refine (ackR_is HAK.out ht.s0 ht.s1 ht.a0 ha.1 ha.2 _).mono ?_); rintro en w5 ⟨rfl, hb5⟩; have r1 := r1.below hb5 r1.lt; have r2 := r2.below hb5 r2.lt; have r3 := r3.below hb5 r3.lt; have hB2 := hB2.trans (hb5.mono hB2.size)))
  have hal := (Below.refl w5.heap.size w5).alloc (Nat.le_refl _) (.cells #[.int .i64 e.n, .int .u64 e.s, .int .u64 a2] 27)
  have r9 := Row.born w5 27 #[.int .i64 e.n, .int .u64 e.s, .int .u64 a2]
  have hg9 : W.heap.size + 2 < w5.heap.size := r3.lt
  have r1 := r1.below hal r1.lt
  have r2 := r2.below hal r2.lt
  have r3 := r3.below hal r3.lt
  have hB2 := hB2.trans (hal.mono hB2.size)
  clear hal c0 c1 c2 c3 c4 c5 c6 c7 c8 c9 fz l0 l1 l2 l3 l4
  generalize w5.alloc (.cells #[.int .i64 e.n, .int .u64 e.s, .int .u64 a2] 27) = w6 at *
  generalize w5.heap.size = g9 at *
  obtain ⟨l0, l1, l2, l3, l4⟩ := line_cells r2
  obtain ⟨⟨c0, c1, c2, c3, c4⟩, ⟨c5, c6, c7, c8, c9⟩, fz⟩ := end_cells r1
  have hH6 := hH.below hB2
  go_upto_region 11 with (first | ((with_reducible refine wp_load_g ?_ r1.range Try.underlying69 rfl (lev_info _ _ _ _ _) ?_ ?_); rfl; rfl) | (go_at_call 47; (with_reducible refine (copyT e A B c d _ ht hH6).mono ?_); rintro en w7 ⟨A4, c4x, B4, d4x, mid, rfl, -, hqi, hp4, hmid, hb7⟩) | ((with_reducible refine wp_row_store (L := LEV e A4 c4x B4 d4x) (Row.bornAt (g := w7.heap.size) rfl 69 _) ?_ (lev_info _ _ _ _ _) (lev_one _ _ _ _ _) ?_ ?_ ?_); rfl; rfl; rfl; intro w8 v8 r5))
  have hal := Upd.below ((Below.refl w7.heap.size w7).alloc (Nat.le_refl _) (.cells ZE 69)) v8 (Nat.le_refl _)
  have hbl := hb7.trans (hal.mono hb7.size)
  have hg9' := r9.lt
  have hgg : g9 < w7.heap.size := Nat.lt_of_lt_of_le hg9' hb7.size
  have r1 := r1.below hbl r1.lt
  have r2 := r2.below hbl r2.lt
  have r3 := r3.below hbl r3.lt
  have r9 := r9.below hbl r9.lt
  have hqi := (hqi.below hal).lower hB2.size
  have hp4 := hp4.below hal
  have hmid := Nat.le_trans hB2.size hmid
  have hB := hB2.trans (hbl.mono hB2.size)
  clear hal hbl hb7 v8 hH6 hB2 hg9' c0 c1 c2 c3 c4 c5 c6 c7 c8 c9 fz l0 l1 l2 l3 l4
  generalize w7.heap.size = g at *
  have q0 : w8.cell? ⟨g9, 0, none⟩ = some (.int .i64 e.n) := r9.cell 0
  have q1 : w8.cell? ⟨g9, 1, none⟩ = some (.int .u64 e.s) := r9.cell 1
  have q2 : w8.cell? ⟨g9, 2, none⟩ = some (.int .u64 a2) := r9.cell 2
  go_upto_region 12 with ((refine wp_put_mid (pre := []) (cs := [.int .i64 e.n, .int .u64 e.s, .int .u64 e.a]) (post := [.int .i64 e.rn, .int .u64 e.rc, .slice A4 e.q.length c4x, .int .i64 e.off, .int .i64 e.want, .slice B4 e.pt.length d4x, .int .u64 e.told]) (L := #[.int .i64 e.n, .int .u64 e.s, .int .u64 a2]) r5 rfl rfl info27 (sender_one _ _ _) ?_ ?_ ?_; rfl; rfl; intro wa ua ra))
  clear q0 q1 q2
  have r5' : Row wa g 69 (LEV { e with a := a2 } A4 c4x B4 d4x) := ra
  have r2 := r2.upd ua (by omega)
  have r3 := r3.upd ua (by omega)
  have hqi := hqi.keeps (Keeps.upd (ts := [69]) ua r5 (by simp)) (by decide) (by decide)
  have hp4 := hp4.keeps (Keeps.upd (ts := [69]) ua r5 (by simp)) (by decide)
  have hB := Upd.below hB ua (by omega)
  clear r5 ua ra r9 r1
  have r5 := r5'
  clear r5'
  obtain ⟨l0, l1, l2, l3, l4⟩ := line_cells r2
  have k5 : wa.cell? ⟨g, 4, none⟩ = some (.int .u64 e.rc) := r5.cell 4
  have f5 := r5.frozen 4
  have hwr : IntKind.u64.wrap (e.rc + 1) = e.rc + 1 := by rw [IntKind.wrap_u64]; have := ht.r0; omega
  go_upto_region 15 with (fail)
  have uk := Upd.setCell wa g 4 (.int .u64 (e.rc + 1))
  have r5' : Row (wa.setCell ⟨g, 4, none⟩ (.int .u64 (e.rc + 1))) g 69 (LEV { e with a := a2, rc := e.rc + 1 } A4 c4x B4 d4x) := r5.set 4 (.int .u64 (e.rc + 1))
  have kk := Keeps.upd (ts := [69]) uk r5 (by simp)
  have r2 := r2.upd uk (by omega)
  have r3 := r3.upd uk (by omega)
  have hqi := hqi.keeps kk (by decide) (by decide)
  have hp4 := hp4.keeps kk (by decide)
  have hB := Upd.below hB uk (by omega)
  clear r5 uk kk k5 f5
  generalize wa.setCell ⟨g, 4, none⟩ (.int .u64 (e.rc + 1)) = wb at *
  have r5 := r5'
  clear r5'
  obtain ⟨l0, l1, l2, l3, l4⟩ := line_cells r2
  have k5 : wb.cell? ⟨g, 7, none⟩ = some (.int .i64 e.want) := r5.cell 7
  have f5 := r5.frozen 7
  have hwa : IntKind.i64.wrap (acH p : Int) = (acH p : Int) := by rw [IntKind.wrap_i64]; omega
  go_upto_region 19 with (first | ((with_reducible refine wp_load_g ?_ r2.range Try.underlying40 rfl (line_info _ _ _ _ _ hl) ?_ ?_); rfl; rfl) | (go_at_call 110; (with_reducible refine (announced k el true ((b : Int) + 4) ack p _ hl).mono ?_); rintro en wc ⟨rfl, hbc⟩; have r2 := r2.below hbc r2.lt; have r3 := r3.below hbc r3.lt; have r5 := r5.below hbc r5.lt; have hqi := hqi.below hbc; have hp4 := hp4.below hbc; have hB := hB.trans (hbc.mono hB.size); have k5 : wc.cell? ⟨g, 7, none⟩ = some (.int .i64 e.want) := r5.cell 7; have f5 := r5.frozen 7))
  have uk := Upd.setCell wc g 7 (.int .i64 (acH p : Int))
  have r5' : Row (wc.setCell ⟨g, 7, none⟩ (.int .i64 (acH p : Int))) g 69 (LEV { e with a := a2, rc := e.rc + 1, want := (acH p : Int) } A4 c4x B4 d4x) := r5.set 7 (.int .i64 (acH p : Int))
  have kk := Keeps.upd (ts := [69]) uk r5 (by simp)
  have r2 := r2.upd uk (by omega)
  have r3 := r3.upd uk (by omega)
  have hqi := hqi.keeps kk (by decide) (by decide)
  have hp4 := hp4.keeps kk (by decide)
  have hB := Upd.below hB uk (by omega)
  clear r5 uk kk k5 f5
  generalize wc.setCell ⟨g, 7, none⟩ (.int .i64 (acH p : Int)) = wz at *
  have r5 := r5'
  clear r5'
  have hi0 : (0 : Int) ≤ ((b : Int) + 4) := by omega
  have hi1 : ((b : Int) + 4) ≤ 56 := by omega
  have hi4 : (4 : Int) ≤ ((b : Int) + 4) := by omega
  have hi5 : 4 ≤ b + 4 := by omega
  have hB : Below W.heap.size W wz.drew := hB.drew
  have r5 : Row wz.drew g 69 (LEV { e with a := a2, rc := e.rc + 1, want := (acH p : Int) } A4 c4x B4 d4x) := r5
  have r2 : Row wz.drew (W.heap.size + 1) 40 (LV k el true ((b : Int) + 4) ack p) := r2
  have r3 : Row wz.drew (W.heap.size + 2) 69 ZE := r3
  have hqi := hqi.below (Below.refl _ _).drew
  have hp4 : OwnB wz.drew mid 5 B4 e.pt.length d4x e.pt := hp4
  clear l0 l1 l2 l3 l4
  have hIb : IsB wz.drew (some ⟨W.heap.size + 1, 9, none⟩) b ((p.take (b + 4)).drop 4) := by
    have h := ((pay_isB r2 hl).pre (b + 4) (by omega)).sufB 4 (by omega)
    simpa using h
  refine wp_region_late (n := 100) [7, 9] (DrS W wz.drew g (W.heap.size + 2) (W.heap.size + 1) mid (fun v => EV { e with a := a2, rc := e.rc + 1, want := (acH p : Int) } (.slice A4 e.q.length c4x) v) (.slice B4 e.pt.length d4x) (LV k el true ((b : Int) + 4) ack p) A4 e.q.length c4x e.q (e.pt.length + b) (e.pt ++ ((p.take (b + 4)).drop 4))) (fun _ _ => True) (by kernel_rfl) (by kernel_rfl) (by rfl) DrS.loc ⟨hB, hqi, r3, r2, fun _ => rfl, fun _ => r5, fun h => by omega, fun h => by omega⟩ ?_
  generalize wz.drew = w0 at *
  refine late_pure (by simp) (fun w => trivial) (v := ?_) (fun _ => rfl) ?_ ?_; rotate_left; (focus (intro c9 us w9 hm9 hS9 hF; clear hF hm9; go_simp; (try with_reducible rfl); done)); simp only [Act.put, List.setIfInBounds_toArray, List.set_cons_zero, List.set_cons_succ, Nat.reduceAdd]
  refine late_pure (by simp) (fun w => trivial) (v := ?_) (fun _ => rfl) ?_ ?_; rotate_left; (focus (intro c9 us w9 hm9 hS9 hF; have hc9 : c9 < 1 := (by rcases Nat.lt_or_ge c9 1 with h9 | h9; exact h9; exact absurd hm9 (by rw [mayAt_no (d := 0) (by kernel_rfl) (by omega) (by decide)]; decide)); have h0 : c9 = 0 := (by omega); have k5 : w9.cell? ⟨g, 8, none⟩ = some (.slice B4 e.pt.length d4x) := (hS9.2.2.2.2.2.1 (by omega)).cell 8; clear hF hm9; go_simp; (try with_reducible rfl); done)); simp only [Act.put, List.setIfInBounds_toArray, List.set_cons_zero, List.set_cons_succ, Nat.reduceAdd]
  refine late_pure (by simp) (fun w => trivial) (v := ?_) (fun _ => rfl) ?_ ?_; rotate_left; (focus (intro c9 us w9 hm9 hS9 hF; clear hF hm9; go_simp; (try with_reducible rfl); done)); simp only [Act.put, List.setIfInBounds_toArray, List.set_cons_zero, List.set_cons_succ, Nat.reduceAdd]
  refine late_pure (by simp) (fun w => trivial) (v := ?_) (fun _ => rfl) ?_ ?_; rotate_left; (focus (intro c9 us w9 hm9 hS9 hF; clear hF hm9; go_simp; (try with_reducible rfl); done)); simp only [Act.put, List.setIfInBounds_toArray, List.set_cons_zero, List.set_cons_succ, Nat.reduceAdd]
  refine late_pure (by simp) (fun w => trivial) (v := ?_) (fun _ => rfl) ?_ ?_; rotate_left; (focus (intro c9 us w9 hm9 hS9 hF; clear hF hm9; go_simp; (try with_reducible rfl); done)); simp only [Act.put, List.setIfInBounds_toArray, List.set_cons_zero, List.set_cons_succ, Nat.reduceAdd]
  refine late_pure (by simp) (fun w => trivial) (v := ?_) (fun _ => rfl) ?_ ?_; rotate_left; (focus (intro c9 us w9 hm9 hS9 hF; obtain ⟨y0, y1, y2, y3, y4⟩ := line_cells hS9.2.2.2.1; clear hF hm9; go_simp; (try with_reducible rfl); done)); simp only [Act.put, List.setIfInBounds_toArray, List.set_cons_zero, List.set_cons_succ, Nat.reduceAdd]
  refine late_pure (by simp) (fun w => trivial) (v := .slice (some ⟨W.heap.size + 1, 9, none⟩) b 52) (fun _ => rfl) ?_ ?_; (focus (intro c9 us w9 hm9 hS9 hF; clear hF hm9; go_simp; omega)); simp only [Act.put, List.setIfInBounds_toArray, List.set_cons_zero, List.set_cons_succ, Nat.reduceAdd]
  refine late_chain (by simp) ?_ ?_; (focus (intro us w9 hS9 hF K hK; clear hF; obtain rfl := hS9.2.2.2.2.1 rfl; rw [if_pos (by rfl)]; exact step_append_b (P := Try.prog) (c' := 52) Try.underlying44 info_b hp4 hIb (by omega) (Nat.le_trans hqi.1 (Nat.le_refl _) |> fun h => h) rfl rfl (fun A' c'' w' h1 h2 h3 h4 => hK _ w' (hS9.one hp4 hmid h1 h2 h3) trivial))); simp only [Act.put, List.setIfInBounds_toArray, List.set_cons_zero, List.set_cons_succ, Nat.reduceAdd]
  refine late_pure (by simp) (fun w => trivial) (v := ?_) (fun _ => rfl) ?_ ?_; rotate_left; (focus (intro c9 us w9 hm9 hS9 hF; clear hF hm9; go_simp; (try with_reducible rfl); done)); simp only [Act.put, List.setIfInBounds_toArray, List.set_cons_zero, List.set_cons_succ, Nat.reduceAdd]
  refine late_store rfl ?_ ?_; (focus (intro us w9 hS9 hF K hK; clear hF; obtain ⟨B', d', hu, ho9⟩ := hS9.2.2.2.2.2.2.1 rfl; simp only [hu] at hK ⊢; have hr9 := hS9.2.2.2.2.2.1 (by omega); have k9 : w9.cell? ⟨g, 8, none⟩ = some (.slice B4 e.pt.length d4x) := hr9.cell 8; have f9 := hr9.frozen 8; have hS10 := hS9.two hu ho9 (fun _ _ => rfl) (by omega) (by omega) (by omega); go_simp; exact hK _ hS10 trivial)); simp only [Nat.reduceAdd]
  refine late_done fun us wx hS8 hF => ?_
  obtain ⟨hB, hqi, r3, r2, -, -, -, h8⟩ := hS8
  obtain ⟨B', d', r5x, hp5⟩ := h8 (by omega)
  clear hF h8 hp4 r5
  have hNN := HPl.out
  obtain ⟨N, hN⟩ : ∃ N, e.pt.length + b = N := ⟨_, rfl⟩
  rw [hN] at r5x hp5
  have HNN := Lib.hid (hNN.trans hN)
  have dN : decide ((N : Int) < (acH p : Int)) = true := by have := HN2.out; have := HP0.out; exact decide_eq_true (by omega)
  have dNn : decide (N < acH p) = true := by have := HN2.out; have := HP0.out; exact decide_eq_true (by omega)
  clear hN hNN hIb
  have k5 : wx.cell? ⟨g, 8, none⟩ = some (.slice B' N d') := r5x.cell 8
  have f5 := r5x.frozen 8
  have k7 : wx.cell? ⟨g, 7, none⟩ = some (.int .i64 (acH p : Int)) := r5x.cell 7
  have r5 : Row wx g 69 (LEV { e with a := a2, rc := e.rc + 1, want := (acH p : Int), pt := e.pt ++ ((p.take (b + 4)).drop 4) } A4 c4x B' d') := by
    have h9 : LEV { e with a := a2, rc := e.rc + 1, want := (acH p : Int), pt := e.pt ++ ((p.take (b + 4)).drop 4) } A4 c4x B' d' = EV { e with a := a2, rc := e.rc + 1, want := (acH p : Int) } (.slice A4 e.q.length c4x) (.slice B' N d') := by simp only [LEV, EV, HNN.out]
    rw [h9]
    exact r5x
  go_wp2_with (first | ((with_reducible refine wp_load_g ?_ r5.range Try.underlying69 rfl (lev_info _ _ _ _ _) ?_ ?_); rfl; rfl) | ((with_reducible refine wp_row_store (L := LEV { e with a := a2, rc := e.rc + 1, want := (acH p : Int), pt := e.pt ++ ((p.take (b + 4)).drop 4) } A4 c4x B' d') r3 rfl (lev_info _ _ _ _ _) (lev_one _ _ _ _ _) ?_ ?_ ?_); rfl; rfl; intro w9 u9 rr9))
  have k9 := Keeps.upd (ts := [69]) u9 r3 (by simp)
  refine bodyPost_ret (results_cttt rfl rfl rr9 Try.underlying69 rfl (lev_info _ _ _ _ _)) rfl ?_
  refine .inr ⟨HE.out, A4, c4x, B', d', none, 0, by rw [HG.out, HM.out, HC.out]; rfl, ?_, by rw [HM.out]; exact OwnB.nil _ _ _, Upd.below hB u9 (by omega)⟩
  rw [HG.out]
  refine QI.heldI (e := { e with a := a2, rc := e.rc + 1, want := (acH p : Int), pt := e.pt ++ ((p.take (b + 4)).drop 4) }) (hqi.keeps k9 (by decide) (by decide)) ?_
  have h7 := (hp5.lower hmid).keeps k9 (by decide)
  rw [← HNN.out] at h7
  exact h7
set_option maxRecDepth 100000 in
set_option maxHeartbeats 8000000 in
theorem dvr_dF1 (e : LE) (A B : Option Addr) (c d : Nat) (k : Int) (el : Bool) (b : Nat) (ack : Int) (p : List UInt8) (W : World) (ht : e.ty) (hH : Held W e A c B d) (hl : p.length = 56) (ha : 0 ≤ ack ∧ ack < 65536) (hv : vE e = true) (hk : k = 1) (hdu : duB e el true ((b : Int) + 4) p = true) (hak : akB k el true ((b : Int) + 4) ack p = false) (he : akE e.n e.s e.a ack = 0) (hrc : e.rc ≠ 4611686018427387904) (hb : b = acH p) (hh : acH p ≤ 52) (hp0 : e.pt.length = 0) : Calls Try.prog 52 #[.agg (LEV e A c B d), .agg (LV k el true ((b : Int) + 4) ack p)] W (DvI e k el true ((b : Int) + 4) ack p W) := by
  have HE := Lib.hid (show dvE e k el true ((b : Int) + 4) ack p = 0 by rw [dv_ok1 hv hk hdu he, if_neg hrc])
  have hvr := (vE_yes hv).vr
  have hr9 : e.rc ≤ 4611686018427387904 := by unfold vr at hvr; simp at hvr; omega
  have hpl := ht.pl
  have HP := Lib.hid (show acP e true ((b : Int) + 4) p = e.pt ++ ((p.take (b + 4)).drop 4) by simp [acP, acB]; rfl)
  have HPl := Lib.hid (show (e.pt ++ ((p.take (b + 4)).drop 4)).length = e.pt.length + b by simp; omega)
  have hwnt := ht.w1
  have HA := Lib.hid (show acE e true ((b : Int) + 4) p = true by unfold acE; rw [HP.out, HPl.out]; show decide ((acH p : Int) ≤ _) = _; exact decide_eq_true (by omega))
  have HC := Lib.hid (show dvC e k true ((b : Int) + 4) p = true by unfold dvC; rw [decide_eq_true hk, HA.out]; rfl)
  have HM := Lib.hid (show dvM e k true ((b : Int) + 4) p = e.pt ++ ((p.take (b + 4)).drop 4) by unfold dvM; rw [HC.out]; rw [if_pos rfl, HP.out])
  obtain ⟨a2, ha2⟩ : ∃ a2, e.a + mv ack e.a = a2 := ⟨_, rfl⟩
  have HG := Lib.hid (show dvG e k true ((b : Int) + 4) ack p = { e with a := a2, rc := e.rc + 1, want := -1, pt := [] } by unfold dvG; rw [if_pos hk, ha2, HA.out]; rfl)
  have d8 : (e.rc == 4611686018427387904) = false := beq_eq_false_iff_ne.2 hrc
  have HV := Lib.hid hv
  have d9 : (k == 1) = true := by rw [hk]; rfl
  have HEQ : ∀ w : World, (Op.equalIn 10000 40 (.agg (LV k el true ((b : Int) + 4) ack p)) (.agg (LV 2 false false 0 ack z56))).run Try.prog w = .ok false w := fun w => by
    rw [eq_line w k 2 el false true false ((b : Int) + 4) 0 ack ack p z56 hl z56_len]
    exact congrArg (fun b => Result.ok b w) hak
  have HDU := Lib.hid hdu
  clear hdu
  have HAK := Lib.hid (show akN e.n e.s e.a ack = e.n ∧ akS e.n e.s e.a ack = e.s ∧ akA e.n e.s e.a ack = a2 ∧ akE e.n e.s e.a ack = 0 from by rw [(ak_ok3 hv he).1, (ak_ok3 hv he).2.1, (ak_ok3 hv he).2.2, he, ha2]; exact ⟨rfl, rfl, rfl, rfl⟩)
  clear hv hak hk
  clear he ha2 hrc hvr
  have hM56 : b ≤ 52 := by omega
  have hN2 := hb
  have HN2 := Lib.hid hN2
  have HP0 := Lib.hid hp0
  clear hp0
  clear hN2 hb
  obtain ⟨r1, r2, r3, hB2⟩ := three_born W 69 40 69 (LEV e A c B d) (LV k el true ((b : Int) + 4) ack p) ZE
  go_enter Try.func52, Try.ntmps52
  go_upto_region 1 with (fail)
  change Code.wp _ _ _ _ (((W.alloc (.cells (LEV e A c B d) 69)).alloc (.cells (LV k el true ((b : Int) + 4) ack p) 40)).alloc (.cells ZE 69))
  generalize ((W.alloc (.cells (LEV e A c B d) 69)).alloc (.cells (LV k el true ((b : Int) + 4) ack p) 40)).alloc (.cells ZE 69) = w1 at *
  have hH1 := hH.below hB2
  go_upto_region 3 with (first | ((with_reducible refine wp_load_g ?_ r1.range Try.underlying69 rfl (lev_info _ _ _ _ _) ?_ ?_); rfl; rfl) | (go_at_call 106; (with_reducible refine (end_is HV.out ht hH1).mono ?_); rintro en w2 ⟨rfl, hb2⟩; have r1 := r1.below hb2 r1.lt; have r2 := r2.below hb2 r2.lt; have r3 := r3.below hb2 r3.lt; have hB2 := hB2.trans (hb2.mono hB2.size)))
  clear hH1
  obtain ⟨l0, l1, l2, l3, l4⟩ := line_cells r2
  obtain ⟨⟨c0, c1, c2, c3, c4⟩, ⟨c5, c6, c7, c8, c9⟩, fz⟩ := end_cells r1
  go_upto_region 5 with (first | ((with_reducible refine wp_load_g ?_ r1.range Try.underlying69 rfl (lev_info _ _ _ _ _) ?_ ?_); rfl; rfl) | ((with_reducible refine wp_load_g ?_ r2.range Try.underlying40 rfl (line_info _ _ _ _ _ hl) ?_ ?_); rfl; rfl) | (go_at_call 109; (with_reducible refine (due_is HDU.out ht HV.out hl _).mono ?_); rintro en w3 ⟨rfl, hb3⟩; have r1 := r1.below hb3 r1.lt; have r2 := r2.below hb3 r2.lt; have r3 := r3.below hb3 r3.lt; have hB2 := hB2.trans (hb3.mono hB2.size); obtain ⟨l0, l1, l2, l3, l4⟩ := line_cells r2; obtain ⟨⟨c0, c1, c2, c3, c4⟩, ⟨c5, c6, c7, c8, c9⟩, fz⟩ := end_cells r1) | ((with_reducible refine wp_eql_g ?_ guard40 (HEQ _) ?_ ?_ ?_); rfl; rfl; rfl))
  go_upto_region 6 with ((go_at_call 35; (with_reducible refine (ackR_is HAK.out ht.s0 ht.s1 ht.a0 ha.1 ha.2 _).mono ?_); rintro en w5 ⟨rfl, hb5⟩; have r1 := r1.below hb5 r1.lt; have r2 := r2.below hb5 r2.lt; have r3 := r3.below hb5 r3.lt; have hB2 := hB2.trans (hb5.mono hB2.size)))
  have hal := (Below.refl w5.heap.size w5).alloc (Nat.le_refl _) (.cells #[.int .i64 e.n, .int .u64 e.s, .int .u64 a2] 27)
  have r9 := Row.born w5 27 #[.int .i64 e.n, .int .u64 e.s, .int .u64 a2]
  have hg9 : W.heap.size + 2 < w5.heap.size := r3.lt
  have r1 := r1.below hal r1.lt
  have r2 := r2.below hal r2.lt
  have r3 := r3.below hal r3.lt
  have hB2 := hB2.trans (hal.mono hB2.size)
  clear hal c0 c1 c2 c3 c4 c5 c6 c7 c8 c9 fz l0 l1 l2 l3 l4
  generalize w5.alloc (.cells #[.int .i64 e.n, .int .u64 e.s, .int .u64 a2] 27) = w6 at *
  generalize w5.heap.size = g9 at *
  obtain ⟨l0, l1, l2, l3, l4⟩ := line_cells r2
  obtain ⟨⟨c0, c1, c2, c3, c4⟩, ⟨c5, c6, c7, c8, c9⟩, fz⟩ := end_cells r1
  have hH6 := hH.below hB2
  go_upto_region 11 with (first | ((with_reducible refine wp_load_g ?_ r1.range Try.underlying69 rfl (lev_info _ _ _ _ _) ?_ ?_); rfl; rfl) | (go_at_call 47; (with_reducible refine (copyT e A B c d _ ht hH6).mono ?_); rintro en w7 ⟨A4, c4x, B4, d4x, mid, rfl, -, hqi, hp4, hmid, hb7⟩) | ((with_reducible refine wp_row_store (L := LEV e A4 c4x B4 d4x) (Row.bornAt (g := w7.heap.size) rfl 69 _) ?_ (lev_info _ _ _ _ _) (lev_one _ _ _ _ _) ?_ ?_ ?_); rfl; rfl; rfl; intro w8 v8 r5))
  have hal := Upd.below ((Below.refl w7.heap.size w7).alloc (Nat.le_refl _) (.cells ZE 69)) v8 (Nat.le_refl _)
  have hbl := hb7.trans (hal.mono hb7.size)
  have hg9' := r9.lt
  have hgg : g9 < w7.heap.size := Nat.lt_of_lt_of_le hg9' hb7.size
  have r1 := r1.below hbl r1.lt
  have r2 := r2.below hbl r2.lt
  have r3 := r3.below hbl r3.lt
  have r9 := r9.below hbl r9.lt
  have hqi := (hqi.below hal).lower hB2.size
  have hp4 := hp4.below hal
  have hmid := Nat.le_trans hB2.size hmid
  have hB := hB2.trans (hbl.mono hB2.size)
  clear hal hbl hb7 v8 hH6 hB2 hg9' c0 c1 c2 c3 c4 c5 c6 c7 c8 c9 fz l0 l1 l2 l3 l4
  generalize w7.heap.size = g at *
  have q0 : w8.cell? ⟨g9, 0, none⟩ = some (.int .i64 e.n) := r9.cell 0
  have q1 : w8.cell? ⟨g9, 1, none⟩ = some (.int .u64 e.s) := r9.cell 1
  have q2 : w8.cell? ⟨g9, 2, none⟩ = some (.int .u64 a2) := r9.cell 2
  go_upto_region 12 with ((refine wp_put_mid (pre := []) (cs := [.int .i64 e.n, .int .u64 e.s, .int .u64 e.a]) (post := [.int .i64 e.rn, .int .u64 e.rc, .slice A4 e.q.length c4x, .int .i64 e.off, .int .i64 e.want, .slice B4 e.pt.length d4x, .int .u64 e.told]) (L := #[.int .i64 e.n, .int .u64 e.s, .int .u64 a2]) r5 rfl rfl info27 (sender_one _ _ _) ?_ ?_ ?_; rfl; rfl; intro wa ua ra))
  clear q0 q1 q2
  have r5' : Row wa g 69 (LEV { e with a := a2 } A4 c4x B4 d4x) := ra
  have r2 := r2.upd ua (by omega)
  have r3 := r3.upd ua (by omega)
  have hqi := hqi.keeps (Keeps.upd (ts := [69]) ua r5 (by simp)) (by decide) (by decide)
  have hp4 := hp4.keeps (Keeps.upd (ts := [69]) ua r5 (by simp)) (by decide)
  have hB := Upd.below hB ua (by omega)
  clear r5 ua ra r9 r1
  have r5 := r5'
  clear r5'
  obtain ⟨l0, l1, l2, l3, l4⟩ := line_cells r2
  have k5 : wa.cell? ⟨g, 4, none⟩ = some (.int .u64 e.rc) := r5.cell 4
  have f5 := r5.frozen 4
  have hwr : IntKind.u64.wrap (e.rc + 1) = e.rc + 1 := by rw [IntKind.wrap_u64]; have := ht.r0; omega
  go_upto_region 15 with (fail)
  have uk := Upd.setCell wa g 4 (.int .u64 (e.rc + 1))
  have r5' : Row (wa.setCell ⟨g, 4, none⟩ (.int .u64 (e.rc + 1))) g 69 (LEV { e with a := a2, rc := e.rc + 1 } A4 c4x B4 d4x) := r5.set 4 (.int .u64 (e.rc + 1))
  have kk := Keeps.upd (ts := [69]) uk r5 (by simp)
  have r2 := r2.upd uk (by omega)
  have r3 := r3.upd uk (by omega)
  have hqi := hqi.keeps kk (by decide) (by decide)
  have hp4 := hp4.keeps kk (by decide)
  have hB := Upd.below hB uk (by omega)
  clear r5 uk kk k5 f5
  generalize wa.setCell ⟨g, 4, none⟩ (.int .u64 (e.rc + 1)) = wb at *
  have r5 := r5'
  clear r5'
  obtain ⟨l0, l1, l2, l3, l4⟩ := line_cells r2
  have k5 : wb.cell? ⟨g, 7, none⟩ = some (.int .i64 e.want) := r5.cell 7
  have f5 := r5.frozen 7
  have hwa : IntKind.i64.wrap (acH p : Int) = (acH p : Int) := by rw [IntKind.wrap_i64]; omega
  go_upto_region 19 with (first | ((with_reducible refine wp_load_g ?_ r2.range Try.underlying40 rfl (line_info _ _ _ _ _ hl) ?_ ?_); rfl; rfl) | (go_at_call 110; (with_reducible refine (announced k el true ((b : Int) + 4) ack p _ hl).mono ?_); rintro en wc ⟨rfl, hbc⟩; have r2 := r2.below hbc r2.lt; have r3 := r3.below hbc r3.lt; have r5 := r5.below hbc r5.lt; have hqi := hqi.below hbc; have hp4 := hp4.below hbc; have hB := hB.trans (hbc.mono hB.size); have k5 : wc.cell? ⟨g, 7, none⟩ = some (.int .i64 e.want) := r5.cell 7; have f5 := r5.frozen 7))
  have uk := Upd.setCell wc g 7 (.int .i64 (acH p : Int))
  have r5' : Row (wc.setCell ⟨g, 7, none⟩ (.int .i64 (acH p : Int))) g 69 (LEV { e with a := a2, rc := e.rc + 1, want := (acH p : Int) } A4 c4x B4 d4x) := r5.set 7 (.int .i64 (acH p : Int))
  have kk := Keeps.upd (ts := [69]) uk r5 (by simp)
  have r2 := r2.upd uk (by omega)
  have r3 := r3.upd uk (by omega)
  have hqi := hqi.keeps kk (by decide) (by decide)
  have hp4 := hp4.keeps kk (by decide)
  have hB := Upd.below hB uk (by omega)
  clear r5 uk kk k5 f5
  generalize wc.setCell ⟨g, 7, none⟩ (.int .i64 (acH p : Int)) = wz at *
  have r5 := r5'
  clear r5'
  have hi0 : (0 : Int) ≤ ((b : Int) + 4) := by omega
  have hi1 : ((b : Int) + 4) ≤ 56 := by omega
  have hi4 : (4 : Int) ≤ ((b : Int) + 4) := by omega
  have hi5 : 4 ≤ b + 4 := by omega
  have hB : Below W.heap.size W wz.drew := hB.drew
  have r5 : Row wz.drew g 69 (LEV { e with a := a2, rc := e.rc + 1, want := (acH p : Int) } A4 c4x B4 d4x) := r5
  have r2 : Row wz.drew (W.heap.size + 1) 40 (LV k el true ((b : Int) + 4) ack p) := r2
  have r3 : Row wz.drew (W.heap.size + 2) 69 ZE := r3
  have hqi := hqi.below (Below.refl _ _).drew
  have hp4 : OwnB wz.drew mid 5 B4 e.pt.length d4x e.pt := hp4
  clear l0 l1 l2 l3 l4
  have hIb : IsB wz.drew (some ⟨W.heap.size + 1, 9, none⟩) b ((p.take (b + 4)).drop 4) := by
    have h := ((pay_isB r2 hl).pre (b + 4) (by omega)).sufB 4 (by omega)
    simpa using h
  refine wp_region_late (n := 100) [7, 9] (DrS W wz.drew g (W.heap.size + 2) (W.heap.size + 1) mid (fun v => EV { e with a := a2, rc := e.rc + 1, want := (acH p : Int) } (.slice A4 e.q.length c4x) v) (.slice B4 e.pt.length d4x) (LV k el true ((b : Int) + 4) ack p) A4 e.q.length c4x e.q (e.pt.length + b) (e.pt ++ ((p.take (b + 4)).drop 4))) (fun _ _ => True) (by kernel_rfl) (by kernel_rfl) (by rfl) DrS.loc ⟨hB, hqi, r3, r2, fun _ => rfl, fun _ => r5, fun h => by omega, fun h => by omega⟩ ?_
  generalize wz.drew = w0 at *
  refine late_pure (by simp) (fun w => trivial) (v := ?_) (fun _ => rfl) ?_ ?_; rotate_left; (focus (intro c9 us w9 hm9 hS9 hF; clear hF hm9; go_simp; (try with_reducible rfl); done)); simp only [Act.put, List.setIfInBounds_toArray, List.set_cons_zero, List.set_cons_succ, Nat.reduceAdd]
  refine late_pure (by simp) (fun w => trivial) (v := ?_) (fun _ => rfl) ?_ ?_; rotate_left; (focus (intro c9 us w9 hm9 hS9 hF; have hc9 : c9 < 1 := (by rcases Nat.lt_or_ge c9 1 with h9 | h9; exact h9; exact absurd hm9 (by rw [mayAt_no (d := 0) (by kernel_rfl) (by omega) (by decide)]; decide)); have h0 : c9 = 0 := (by omega); have k5 : w9.cell? ⟨g, 8, none⟩ = some (.slice B4 e.pt.length d4x) := (hS9.2.2.2.2.2.1 (by omega)).cell 8; clear hF hm9; go_simp; (try with_reducible rfl); done)); simp only [Act.put, List.setIfInBounds_toArray, List.set_cons_zero, List.set_cons_succ, Nat.reduceAdd]
  refine late_pure (by simp) (fun w => trivial) (v := ?_) (fun _ => rfl) ?_ ?_; rotate_left; (focus (intro c9 us w9 hm9 hS9 hF; clear hF hm9; go_simp; (try with_reducible rfl); done)); simp only [Act.put, List.setIfInBounds_toArray, List.set_cons_zero, List.set_cons_succ, Nat.reduceAdd]
  refine late_pure (by simp) (fun w => trivial) (v := ?_) (fun _ => rfl) ?_ ?_; rotate_left; (focus (intro c9 us w9 hm9 hS9 hF; clear hF hm9; go_simp; (try with_reducible rfl); done)); simp only [Act.put, List.setIfInBounds_toArray, List.set_cons_zero, List.set_cons_succ, Nat.reduceAdd]
  refine late_pure (by simp) (fun w => trivial) (v := ?_) (fun _ => rfl) ?_ ?_; rotate_left; (focus (intro c9 us w9 hm9 hS9 hF; clear hF hm9; go_simp; (try with_reducible rfl); done)); simp only [Act.put, List.setIfInBounds_toArray, List.set_cons_zero, List.set_cons_succ, Nat.reduceAdd]
  refine late_pure (by simp) (fun w => trivial) (v := ?_) (fun _ => rfl) ?_ ?_; rotate_left; (focus (intro c9 us w9 hm9 hS9 hF; obtain ⟨y0, y1, y2, y3, y4⟩ := line_cells hS9.2.2.2.1; clear hF hm9; go_simp; (try with_reducible rfl); done)); simp only [Act.put, List.setIfInBounds_toArray, List.set_cons_zero, List.set_cons_succ, Nat.reduceAdd]
  refine late_pure (by simp) (fun w => trivial) (v := .slice (some ⟨W.heap.size + 1, 9, none⟩) b 52) (fun _ => rfl) ?_ ?_; (focus (intro c9 us w9 hm9 hS9 hF; clear hF hm9; go_simp; omega)); simp only [Act.put, List.setIfInBounds_toArray, List.set_cons_zero, List.set_cons_succ, Nat.reduceAdd]
  refine late_chain (by simp) ?_ ?_; (focus (intro us w9 hS9 hF K hK; clear hF; obtain rfl := hS9.2.2.2.2.1 rfl; rw [if_pos (by rfl)]; exact step_append_b (P := Try.prog) (c' := 52) Try.underlying44 info_b hp4 hIb (by omega) (Nat.le_trans hqi.1 (Nat.le_refl _) |> fun h => h) rfl rfl (fun A' c'' w' h1 h2 h3 h4 => hK _ w' (hS9.one hp4 hmid h1 h2 h3) trivial))); simp only [Act.put, List.setIfInBounds_toArray, List.set_cons_zero, List.set_cons_succ, Nat.reduceAdd]
  refine late_pure (by simp) (fun w => trivial) (v := ?_) (fun _ => rfl) ?_ ?_; rotate_left; (focus (intro c9 us w9 hm9 hS9 hF; clear hF hm9; go_simp; (try with_reducible rfl); done)); simp only [Act.put, List.setIfInBounds_toArray, List.set_cons_zero, List.set_cons_succ, Nat.reduceAdd]
  refine late_store rfl ?_ ?_; (focus (intro us w9 hS9 hF K hK; clear hF; obtain ⟨B', d', hu, ho9⟩ := hS9.2.2.2.2.2.2.1 rfl; simp only [hu] at hK ⊢; have hr9 := hS9.2.2.2.2.2.1 (by omega); have k9 : w9.cell? ⟨g, 8, none⟩ = some (.slice B4 e.pt.length d4x) := hr9.cell 8; have f9 := hr9.frozen 8; have hS10 := hS9.two hu ho9 (fun _ _ => rfl) (by omega) (by omega) (by omega); go_simp; exact hK _ hS10 trivial)); simp only [Nat.reduceAdd]
  refine late_done fun us wx hS8 hF => ?_
  obtain ⟨hB, hqi, r3, r2, -, -, -, h8⟩ := hS8
  obtain ⟨B', d', r5x, hp5⟩ := h8 (by omega)
  clear hF h8 hp4 r5
  have hNN := HPl.out
  obtain ⟨N, hN⟩ : ∃ N, e.pt.length + b = N := ⟨_, rfl⟩
  rw [hN] at r5x hp5
  have HNN := Lib.hid (hNN.trans hN)
  have dN : decide ((N : Int) < (acH p : Int)) = false := by have := HN2.out; have := HP0.out; exact decide_eq_false (by omega)
  have dNn : decide (N < acH p) = false := by have := HN2.out; have := HP0.out; exact decide_eq_false (by omega)
  clear hN hNN hIb
  have k5 : wx.cell? ⟨g, 8, none⟩ = some (.slice B' N d') := r5x.cell 8
  have f5 := r5x.frozen 8
  have k7 : wx.cell? ⟨g, 7, none⟩ = some (.int .i64 (acH p : Int)) := r5x.cell 7
  have r5 := r5x
  have hp4 := hp5
  clear r5x hp5
  go_upto_region 24 with (fail)
  clear k7
  have uk := Upd.setCell wx g 8 (.slice none 0 0)
  have r5' : Row (wx.setCell ⟨g, 8, none⟩ (.slice none 0 0)) g 69 (EV { e with a := a2, rc := e.rc + 1, want := (acH p : Int) } (.slice A4 e.q.length c4x) (.slice none 0 0)) := r5.set 8 (.slice none 0 0)
  have kk := Keeps.upd (ts := [69]) uk r5 (by simp)
  have r2 := r2.upd uk (by omega)
  have r3 := r3.upd uk (by omega)
  have hqi := hqi.keeps kk (by decide) (by decide)
  have hp4 := hp4.keeps kk (by decide)
  have hB := Upd.below hB uk (by omega)
  clear r5 uk kk k5 f5
  generalize wx.setCell ⟨g, 8, none⟩ (.slice none 0 0) = wy at *
  have r5 := r5'
  clear r5'
  have k5 : wy.cell? ⟨g, 7, none⟩ = some (.int .i64 (acH p : Int)) := r5.cell 7
  have f5 := r5.frozen 7
  go_upto_region 25 with (fail)
  have uk := Upd.setCell wy g 7 (.int .i64 (-1))
  have r5' : Row (wy.setCell ⟨g, 7, none⟩ (.int .i64 (-1))) g 69 (LEV { e with a := a2, rc := e.rc + 1, want := -1, pt := [] } A4 c4x none 0) := r5.set 7 (.int .i64 (-1))
  have kk := Keeps.upd (ts := [69]) uk r5 (by simp)
  have r2 := r2.upd uk (by omega)
  have r3 := r3.upd uk (by omega)
  have hqi := hqi.keeps kk (by decide) (by decide)
  have hp4 := hp4.keeps kk (by decide)
  have hB := Upd.below hB uk (by omega)
  clear r5 uk kk k5 f5
  generalize wy.setCell ⟨g, 7, none⟩ (.int .i64 (-1)) = wq at *
  have r5 := r5'
  clear r5'
  go_wp2_with (first | ((with_reducible refine wp_load_g ?_ r5.range Try.underlying69 rfl (lev_info _ _ _ _ _) ?_ ?_); rfl; rfl) | ((with_reducible refine wp_row_store (L := LEV { e with a := a2, rc := e.rc + 1, want := -1, pt := [] } A4 c4x none 0) r3 rfl (lev_info _ _ _ _ _) (lev_one _ _ _ _ _) ?_ ?_ ?_); rfl; rfl; intro w9 u9 rr9))
  have k9 := Keeps.upd (ts := [69]) u9 r3 (by simp)
  refine bodyPost_ret (results_cttt rfl rfl rr9 Try.underlying69 rfl (lev_info _ _ _ _ _)) rfl ?_
  refine .inr ⟨HE.out, A4, c4x, none, 0, B', d', by rw [HG.out, HM.out, HC.out, HNN.out]; rfl, ?_, ?_, Upd.below hB u9 (by omega)⟩
  · rw [HG.out]
    exact QI.heldI (e := { e with a := a2, rc := e.rc + 1, want := -1, pt := [] }) (hqi.keeps k9 (by decide) (by decide)) (OwnB.nil _ _ _)
  · rw [HM.out, HNN.out]
    exact (hp4.lower hmid).keeps k9 (by decide)
set_option maxRecDepth 100000 in
set_option maxHeartbeats 8000000 in
theorem dvr_dS0 (e : LE) (A B : Option Addr) (c d : Nat) (k : Int) (el : Bool) (m : Nat) (ack : Int) (p : List UInt8) (W : World) (ht : e.ty) (hH : Held W e A c B d) (hl : p.length = 56) (ha : 0 ≤ ack ∧ ack < 65536) (hv : vE e = true) (hk : k = 1) (hdu : duB e el false (m : Int) p = true) (hak : akB k el false (m : Int) ack p = false) (he : akE e.n e.s e.a ack = 0) (hrc : e.rc ≠ 4611686018427387904) (hb : m = 56) (hR : 56 < e.want - e.pt.length) : Calls Try.prog 52 #[.agg (LEV e A c B d), .agg (LV k el false (m : Int) ack p)] W (DvI e k el false (m : Int) ack p W) := by
  have HE := Lib.hid (show dvE e k el false (m : Int) ack p = 0 by rw [dv_ok1 hv hk hdu he, if_neg hrc])
  have hvr := (vE_yes hv).vr
  have hr9 : e.rc ≤ 4611686018427387904 := by unfold vr at hvr; simp at hvr; omega
  have hpl := ht.pl
  have HP := Lib.hid (show acP e false (m : Int) p = e.pt ++ (p.take m) by simp [acP, acB])
  have HPl := Lib.hid (show (e.pt ++ (p.take m)).length = e.pt.length + m by simp; omega)
  have hwnt := ht.w1
  have HA := Lib.hid (show acE e false (m : Int) p = false by unfold acE; rw [HP.out, HPl.out]; show decide (e.want ≤ _) = _; exact decide_eq_false (by omega))
  have HC := Lib.hid (show dvC e k false (m : Int) p = false by unfold dvC; rw [decide_eq_true hk, HA.out]; rfl)
  have HM := Lib.hid (show dvM e k false (m : Int) p = [] by unfold dvM; rw [HC.out]; rfl)
  obtain ⟨a2, ha2⟩ : ∃ a2, e.a + mv ack e.a = a2 := ⟨_, rfl⟩
  have HG := Lib.hid (show dvG e k false (m : Int) ack p = { e with a := a2, rc := e.rc + 1, want := e.want, pt := e.pt ++ (p.take m) } by unfold dvG; rw [if_pos hk, ha2, HA.out, HP.out]; rfl)
  have d8 : (e.rc == 4611686018427387904) = false := beq_eq_false_iff_ne.2 hrc
  have HV := Lib.hid hv
  have d9 : (k == 1) = true := by rw [hk]; rfl
  have HEQ : ∀ w : World, (Op.equalIn 10000 40 (.agg (LV k el false (m : Int) ack p)) (.agg (LV 2 false false 0 ack z56))).run Try.prog w = .ok false w := fun w => by
    rw [eq_line w k 2 el false false false (m : Int) 0 ack ack p z56 hl z56_len]
    exact congrArg (fun b => Result.ok b w) hak
  have HDU := Lib.hid hdu
  clear hdu
  have HAK := Lib.hid (show akN e.n e.s e.a ack = e.n ∧ akS e.n e.s e.a ack = e.s ∧ akA e.n e.s e.a ack = a2 ∧ akE e.n e.s e.a ack = 0 from by rw [(ak_ok3 hv he).1, (ak_ok3 hv he).2.1, (ak_ok3 hv he).2.2, he, ha2]; exact ⟨rfl, rfl, rfl, rfl⟩)
  clear hv hak hk
  clear he ha2 hrc hvr
  have hM56 : m ≤ 56 := by omega
  have hN2 := hb
  have HN2 := Lib.hid hN2
  clear hN2 hb
  obtain ⟨r1, r2, r3, hB2⟩ := three_born W 69 40 69 (LEV e A c B d) (LV k el false (m : Int) ack p) ZE
  go_enter Try.func52, Try.ntmps52
  go_upto_region 1 with (fail)
  change Code.wp _ _ _ _ (((W.alloc (.cells (LEV e A c B d) 69)).alloc (.cells (LV k el false (m : Int) ack p) 40)).alloc (.cells ZE 69))
  generalize ((W.alloc (.cells (LEV e A c B d) 69)).alloc (.cells (LV k el false (m : Int) ack p) 40)).alloc (.cells ZE 69) = w1 at *
  have hH1 := hH.below hB2
  go_upto_region 3 with (first | ((with_reducible refine wp_load_g ?_ r1.range Try.underlying69 rfl (lev_info _ _ _ _ _) ?_ ?_); rfl; rfl) | (go_at_call 106; (with_reducible refine (end_is HV.out ht hH1).mono ?_); rintro en w2 ⟨rfl, hb2⟩; have r1 := r1.below hb2 r1.lt; have r2 := r2.below hb2 r2.lt; have r3 := r3.below hb2 r3.lt; have hB2 := hB2.trans (hb2.mono hB2.size)))
  clear hH1
  obtain ⟨l0, l1, l2, l3, l4⟩ := line_cells r2
  obtain ⟨⟨c0, c1, c2, c3, c4⟩, ⟨c5, c6, c7, c8, c9⟩, fz⟩ := end_cells r1
  go_upto_region 5 with (first | ((with_reducible refine wp_load_g ?_ r1.range Try.underlying69 rfl (lev_info _ _ _ _ _) ?_ ?_); rfl; rfl) | ((with_reducible refine wp_load_g ?_ r2.range Try.underlying40 rfl (line_info _ _ _ _ _ hl) ?_ ?_); rfl; rfl) | (go_at_call 109; (with_reducible refine (due_is HDU.out ht HV.out hl _).mono ?_); rintro en w3 ⟨rfl, hb3⟩; have r1 := r1.below hb3 r1.lt; have r2 := r2.below hb3 r2.lt; have r3 := r3.below hb3 r3.lt; have hB2 := hB2.trans (hb3.mono hB2.size); obtain ⟨l0, l1, l2, l3, l4⟩ := line_cells r2; obtain ⟨⟨c0, c1, c2, c3, c4⟩, ⟨c5, c6, c7, c8, c9⟩, fz⟩ := end_cells r1) | ((with_reducible refine wp_eql_g ?_ guard40 (HEQ _) ?_ ?_ ?_); rfl; rfl; rfl))
  go_upto_region 6 with ((go_at_call 35; (with_reducible refine (ackR_is HAK.out ht.s0 ht.s1 ht.a0 ha.1 ha.2 _).mono ?_); rintro en w5 ⟨rfl, hb5⟩; have r1 := r1.below hb5 r1.lt; have r2 := r2.below hb5 r2.lt; have r3 := r3.below hb5 r3.lt; have hB2 := hB2.trans (hb5.mono hB2.size)))
  have hal := (Below.refl w5.heap.size w5).alloc (Nat.le_refl _) (.cells #[.int .i64 e.n, .int .u64 e.s, .int .u64 a2] 27)
  have r9 := Row.born w5 27 #[.int .i64 e.n, .int .u64 e.s, .int .u64 a2]
  have hg9 : W.heap.size + 2 < w5.heap.size := r3.lt
  have r1 := r1.below hal r1.lt
  have r2 := r2.below hal r2.lt
  have r3 := r3.below hal r3.lt
  have hB2 := hB2.trans (hal.mono hB2.size)
  clear hal c0 c1 c2 c3 c4 c5 c6 c7 c8 c9 fz l0 l1 l2 l3 l4
  generalize w5.alloc (.cells #[.int .i64 e.n, .int .u64 e.s, .int .u64 a2] 27) = w6 at *
  generalize w5.heap.size = g9 at *
  obtain ⟨l0, l1, l2, l3, l4⟩ := line_cells r2
  obtain ⟨⟨c0, c1, c2, c3, c4⟩, ⟨c5, c6, c7, c8, c9⟩, fz⟩ := end_cells r1
  have hH6 := hH.below hB2
  go_upto_region 11 with (first | ((with_reducible refine wp_load_g ?_ r1.range Try.underlying69 rfl (lev_info _ _ _ _ _) ?_ ?_); rfl; rfl) | (go_at_call 47; (with_reducible refine (copyT e A B c d _ ht hH6).mono ?_); rintro en w7 ⟨A4, c4x, B4, d4x, mid, rfl, -, hqi, hp4, hmid, hb7⟩) | ((with_reducible refine wp_row_store (L := LEV e A4 c4x B4 d4x) (Row.bornAt (g := w7.heap.size) rfl 69 _) ?_ (lev_info _ _ _ _ _) (lev_one _ _ _ _ _) ?_ ?_ ?_); rfl; rfl; rfl; intro w8 v8 r5))
  have hal := Upd.below ((Below.refl w7.heap.size w7).alloc (Nat.le_refl _) (.cells ZE 69)) v8 (Nat.le_refl _)
  have hbl := hb7.trans (hal.mono hb7.size)
  have hg9' := r9.lt
  have hgg : g9 < w7.heap.size := Nat.lt_of_lt_of_le hg9' hb7.size
  have r1 := r1.below hbl r1.lt
  have r2 := r2.below hbl r2.lt
  have r3 := r3.below hbl r3.lt
  have r9 := r9.below hbl r9.lt
  have hqi := (hqi.below hal).lower hB2.size
  have hp4 := hp4.below hal
  have hmid := Nat.le_trans hB2.size hmid
  have hB := hB2.trans (hbl.mono hB2.size)
  clear hal hbl hb7 v8 hH6 hB2 hg9' c0 c1 c2 c3 c4 c5 c6 c7 c8 c9 fz l0 l1 l2 l3 l4
  generalize w7.heap.size = g at *
  have q0 : w8.cell? ⟨g9, 0, none⟩ = some (.int .i64 e.n) := r9.cell 0
  have q1 : w8.cell? ⟨g9, 1, none⟩ = some (.int .u64 e.s) := r9.cell 1
  have q2 : w8.cell? ⟨g9, 2, none⟩ = some (.int .u64 a2) := r9.cell 2
  go_upto_region 12 with ((refine wp_put_mid (pre := []) (cs := [.int .i64 e.n, .int .u64 e.s, .int .u64 e.a]) (post := [.int .i64 e.rn, .int .u64 e.rc, .slice A4 e.q.length c4x, .int .i64 e.off, .int .i64 e.want, .slice B4 e.pt.length d4x, .int .u64 e.told]) (L := #[.int .i64 e.n, .int .u64 e.s, .int .u64 a2]) r5 rfl rfl info27 (sender_one _ _ _) ?_ ?_ ?_; rfl; rfl; intro wa ua ra))
  clear q0 q1 q2
  have r5' : Row wa g 69 (LEV { e with a := a2 } A4 c4x B4 d4x) := ra
  have r2 := r2.upd ua (by omega)
  have r3 := r3.upd ua (by omega)
  have hqi := hqi.keeps (Keeps.upd (ts := [69]) ua r5 (by simp)) (by decide) (by decide)
  have hp4 := hp4.keeps (Keeps.upd (ts := [69]) ua r5 (by simp)) (by decide)
  have hB := Upd.below hB ua (by omega)
  clear r5 ua ra r9 r1
  have r5 := r5'
  clear r5'
  obtain ⟨l0, l1, l2, l3, l4⟩ := line_cells r2
  have k5 : wa.cell? ⟨g, 4, none⟩ = some (.int .u64 e.rc) := r5.cell 4
  have f5 := r5.frozen 4
  have hwr : IntKind.u64.wrap (e.rc + 1) = e.rc + 1 := by rw [IntKind.wrap_u64]; have := ht.r0; omega
  go_upto_region 15 with (fail)
  have uk := Upd.setCell wa g 4 (.int .u64 (e.rc + 1))
  have r5' : Row (wa.setCell ⟨g, 4, none⟩ (.int .u64 (e.rc + 1))) g 69 (LEV { e with a := a2, rc := e.rc + 1 } A4 c4x B4 d4x) := r5.set 4 (.int .u64 (e.rc + 1))
  have kk := Keeps.upd (ts := [69]) uk r5 (by simp)
  have r2 := r2.upd uk (by omega)
  have r3 := r3.upd uk (by omega)
  have hqi := hqi.keeps kk (by decide) (by decide)
  have hp4 := hp4.keeps kk (by decide)
  have hB := Upd.below hB uk (by omega)
  clear r5 uk kk k5 f5
  generalize wa.setCell ⟨g, 4, none⟩ (.int .u64 (e.rc + 1)) = wb at *
  have r5 := r5'
  clear r5'
  obtain ⟨l0, l1, l2, l3, l4⟩ := line_cells r2
  go_upto_region 19 with (fail)
  have hwz : wb = wb := rfl
  generalize wb = wz at *
  have hi0 : (0 : Int) ≤ (m : Int) := by omega
  have hi1 : (m : Int) ≤ 56 := by omega
  have hB : Below W.heap.size W wz.drew := hB.drew
  have r5 : Row wz.drew g 69 (LEV { e with a := a2, rc := e.rc + 1, want := e.want } A4 c4x B4 d4x) := r5
  have r2 : Row wz.drew (W.heap.size + 1) 40 (LV k el false (m : Int) ack p) := r2
  have r3 : Row wz.drew (W.heap.size + 2) 69 ZE := r3
  have hqi := hqi.below (Below.refl _ _).drew
  have hp4 : OwnB wz.drew mid 5 B4 e.pt.length d4x e.pt := hp4
  clear l0 l1 l2 l3 l4
  have hIb : IsB wz.drew (some ⟨W.heap.size + 1, 5, none⟩) m (p.take m) := (pay_isB r2 hl).pre m (by omega)
  refine wp_region_late (n := 100) [7, 9] (DrS W wz.drew g (W.heap.size + 2) (W.heap.size + 1) mid (fun v => EV { e with a := a2, rc := e.rc + 1, want := e.want } (.slice A4 e.q.length c4x) v) (.slice B4 e.pt.length d4x) (LV k el false m ack p) A4 e.q.length c4x e.q (e.pt.length + m) (e.pt ++ (p.take m))) (fun _ _ => True) (by kernel_rfl) (by kernel_rfl) (by rfl) DrS.loc ⟨hB, hqi, r3, r2, fun _ => rfl, fun _ => r5, fun h => by omega, fun h => by omega⟩ ?_
  generalize wz.drew = w0 at *
  refine late_pure (by simp) (fun w => trivial) (v := ?_) (fun _ => rfl) ?_ ?_; rotate_left; (focus (intro c9 us w9 hm9 hS9 hF; clear hF hm9; go_simp; (try with_reducible rfl); done)); simp only [Act.put, List.setIfInBounds_toArray, List.set_cons_zero, List.set_cons_succ, Nat.reduceAdd]
  refine late_pure (by simp) (fun w => trivial) (v := ?_) (fun _ => rfl) ?_ ?_; rotate_left; (focus (intro c9 us w9 hm9 hS9 hF; have hc9 : c9 < 1 := (by rcases Nat.lt_or_ge c9 1 with h9 | h9; exact h9; exact absurd hm9 (by rw [mayAt_no (d := 0) (by kernel_rfl) (by omega) (by decide)]; decide)); have h0 : c9 = 0 := (by omega); have k5 : w9.cell? ⟨g, 8, none⟩ = some (.slice B4 e.pt.length d4x) := (hS9.2.2.2.2.2.1 (by omega)).cell 8; clear hF hm9; go_simp; (try with_reducible rfl); done)); simp only [Act.put, List.setIfInBounds_toArray, List.set_cons_zero, List.set_cons_succ, Nat.reduceAdd]
  refine late_pure (by simp) (fun w => trivial) (v := ?_) (fun _ => rfl) ?_ ?_; rotate_left; (focus (intro c9 us w9 hm9 hS9 hF; clear hF hm9; go_simp; (try with_reducible rfl); done)); simp only [Act.put, List.setIfInBounds_toArray, List.set_cons_zero, List.set_cons_succ, Nat.reduceAdd]
  refine late_pure (by simp) (fun w => trivial) (v := ?_) (fun _ => rfl) ?_ ?_; rotate_left; (focus (intro c9 us w9 hm9 hS9 hF; clear hF hm9; go_simp; (try with_reducible rfl); done)); simp only [Act.put, List.setIfInBounds_toArray, List.set_cons_zero, List.set_cons_succ, Nat.reduceAdd]
  refine late_pure (by simp) (fun w => trivial) (v := ?_) (fun _ => rfl) ?_ ?_; rotate_left; (focus (intro c9 us w9 hm9 hS9 hF; clear hF hm9; go_simp; (try with_reducible rfl); done)); simp only [Act.put, List.setIfInBounds_toArray, List.set_cons_zero, List.set_cons_succ, Nat.reduceAdd]
  refine late_pure (by simp) (fun w => trivial) (v := ?_) (fun _ => rfl) ?_ ?_; rotate_left; (focus (intro c9 us w9 hm9 hS9 hF; obtain ⟨y0, y1, y2, y3, y4⟩ := line_cells hS9.2.2.2.1; clear hF hm9; go_simp; (try with_reducible rfl); done)); simp only [Act.put, List.setIfInBounds_toArray, List.set_cons_zero, List.set_cons_succ, Nat.reduceAdd]
  refine late_pure (by simp) (fun w => trivial) (v := .slice (some ⟨W.heap.size + 1, 5, none⟩) m 56) (fun _ => rfl) ?_ ?_; (focus (intro c9 us w9 hm9 hS9 hF; clear hF hm9; go_simp; (try with_reducible rfl); done)); simp only [Act.put, List.setIfInBounds_toArray, List.set_cons_zero, List.set_cons_succ, Nat.reduceAdd]
  refine late_chain (by simp) ?_ ?_; (focus (intro us w9 hS9 hF K hK; clear hF; obtain rfl := hS9.2.2.2.2.1 rfl; rw [if_pos (by rfl)]; exact step_append_b (P := Try.prog) (c' := 56) Try.underlying44 info_b hp4 hIb (by omega) (Nat.le_trans hqi.1 (Nat.le_refl _) |> fun h => h) rfl rfl (fun A' c'' w' h1 h2 h3 h4 => hK _ w' (hS9.one hp4 hmid h1 h2 h3) trivial))); simp only [Act.put, List.setIfInBounds_toArray, List.set_cons_zero, List.set_cons_succ, Nat.reduceAdd]
  refine late_pure (by simp) (fun w => trivial) (v := ?_) (fun _ => rfl) ?_ ?_; rotate_left; (focus (intro c9 us w9 hm9 hS9 hF; clear hF hm9; go_simp; (try with_reducible rfl); done)); simp only [Act.put, List.setIfInBounds_toArray, List.set_cons_zero, List.set_cons_succ, Nat.reduceAdd]
  refine late_store rfl ?_ ?_; (focus (intro us w9 hS9 hF K hK; clear hF; obtain ⟨B', d', hu, ho9⟩ := hS9.2.2.2.2.2.2.1 rfl; simp only [hu] at hK ⊢; have hr9 := hS9.2.2.2.2.2.1 (by omega); have k9 : w9.cell? ⟨g, 8, none⟩ = some (.slice B4 e.pt.length d4x) := hr9.cell 8; have f9 := hr9.frozen 8; have hS10 := hS9.two hu ho9 (fun _ _ => rfl) (by omega) (by omega) (by omega); go_simp; exact hK _ hS10 trivial)); simp only [Nat.reduceAdd]
  refine late_done fun us wx hS8 hF => ?_
  obtain ⟨hB, hqi, r3, r2, -, -, -, h8⟩ := hS8
  obtain ⟨B', d', r5x, hp5⟩ := h8 (by omega)
  clear hF h8 hp4 r5
  have hNN := HPl.out
  obtain ⟨N, hN⟩ : ∃ N, e.pt.length + m = N := ⟨_, rfl⟩
  rw [hN] at r5x hp5
  have HNN := Lib.hid (hNN.trans hN)
  have dN : decide ((N : Int) < e.want) = true := by have := HN2.out; exact decide_eq_true (by omega)
  clear hN hNN hIb
  have k5 : wx.cell? ⟨g, 8, none⟩ = some (.slice B' N d') := r5x.cell 8
  have f5 := r5x.frozen 8
  have k7 : wx.cell? ⟨g, 7, none⟩ = some (.int .i64 e.want) := r5x.cell 7
  have r5 : Row wx g 69 (LEV { e with a := a2, rc := e.rc + 1, want := e.want, pt := e.pt ++ (p.take m) } A4 c4x B' d') := by
    have h9 : LEV { e with a := a2, rc := e.rc + 1, want := e.want, pt := e.pt ++ (p.take m) } A4 c4x B' d' = EV { e with a := a2, rc := e.rc + 1, want := e.want } (.slice A4 e.q.length c4x) (.slice B' N d') := by simp only [LEV, EV, HNN.out]
    rw [h9]
    exact r5x
  go_wp2_with (first | ((with_reducible refine wp_load_g ?_ r5.range Try.underlying69 rfl (lev_info _ _ _ _ _) ?_ ?_); rfl; rfl) | ((with_reducible refine wp_row_store (L := LEV { e with a := a2, rc := e.rc + 1, want := e.want, pt := e.pt ++ (p.take m) } A4 c4x B' d') r3 rfl (lev_info _ _ _ _ _) (lev_one _ _ _ _ _) ?_ ?_ ?_); rfl; rfl; intro w9 u9 rr9))
  have k9 := Keeps.upd (ts := [69]) u9 r3 (by simp)
  refine bodyPost_ret (results_cttt rfl rfl rr9 Try.underlying69 rfl (lev_info _ _ _ _ _)) rfl ?_
  refine .inr ⟨HE.out, A4, c4x, B', d', none, 0, by rw [HG.out, HM.out, HC.out]; rfl, ?_, by rw [HM.out]; exact OwnB.nil _ _ _, Upd.below hB u9 (by omega)⟩
  rw [HG.out]
  refine QI.heldI (e := { e with a := a2, rc := e.rc + 1, want := e.want, pt := e.pt ++ (p.take m) }) (hqi.keeps k9 (by decide) (by decide)) ?_
  have h7 := (hp5.lower hmid).keeps k9 (by decide)
  rw [← HNN.out] at h7
  exact h7
set_option maxRecDepth 100000 in
set_option maxHeartbeats 8000000 in
theorem dvr_dS1 (e : LE) (A B : Option Addr) (c d : Nat) (k : Int) (el : Bool) (m : Nat) (ack : Int) (p : List UInt8) (W : World) (ht : e.ty) (hH : Held W e A c B d) (hl : p.length = 56) (ha : 0 ≤ ack ∧ ack < 65536) (hv : vE e = true) (hk : k = 1) (hdu : duB e el false (m : Int) p = true) (hak : akB k el false (m : Int) ack p = false) (he : akE e.n e.s e.a ack = 0) (hrc : e.rc ≠ 4611686018427387904) (hm : m ≤ 56) (hb : (m : Int) = e.want - e.pt.length) : Calls Try.prog 52 #[.agg (LEV e A c B d), .agg (LV k el false (m : Int) ack p)] W (DvI e k el false (m : Int) ack p W) := by
  have HE := Lib.hid (show dvE e k el false (m : Int) ack p = 0 by rw [dv_ok1 hv hk hdu he, if_neg hrc])
  have hvr := (vE_yes hv).vr
  have hr9 : e.rc ≤ 4611686018427387904 := by unfold vr at hvr; simp at hvr; omega
  have hpl := ht.pl
  have HP := Lib.hid (show acP e false (m : Int) p = e.pt ++ (p.take m) by simp [acP, acB])
  have HPl := Lib.hid (show (e.pt ++ (p.take m)).length = e.pt.length + m by simp; omega)
  have hwnt := ht.w1
  have HA := Lib.hid (show acE e false (m : Int) p = true by unfold acE; rw [HP.out, HPl.out]; show decide (e.want ≤ _) = _; exact decide_eq_true (by omega))
  have HC := Lib.hid (show dvC e k false (m : Int) p = true by unfold dvC; rw [decide_eq_true hk, HA.out]; rfl)
  have HM := Lib.hid (show dvM e k false (m : Int) p = e.pt ++ (p.take m) by unfold dvM; rw [HC.out]; rw [if_pos rfl, HP.out])
  obtain ⟨a2, ha2⟩ : ∃ a2, e.a + mv ack e.a = a2 := ⟨_, rfl⟩
  have HG := Lib.hid (show dvG e k false (m : Int) ack p = { e with a := a2, rc := e.rc + 1, want := -1, pt := [] } by unfold dvG; rw [if_pos hk, ha2, HA.out]; rfl)
  have d8 : (e.rc == 4611686018427387904) = false := beq_eq_false_iff_ne.2 hrc
  have HV := Lib.hid hv
  have d9 : (k == 1) = true := by rw [hk]; rfl
  have HEQ : ∀ w : World, (Op.equalIn 10000 40 (.agg (LV k el false (m : Int) ack p)) (.agg (LV 2 false false 0 ack z56))).run Try.prog w = .ok false w := fun w => by
    rw [eq_line w k 2 el false false false (m : Int) 0 ack ack p z56 hl z56_len]
    exact congrArg (fun b => Result.ok b w) hak
  have HDU := Lib.hid hdu
  clear hdu
  have HAK := Lib.hid (show akN e.n e.s e.a ack = e.n ∧ akS e.n e.s e.a ack = e.s ∧ akA e.n e.s e.a ack = a2 ∧ akE e.n e.s e.a ack = 0 from by rw [(ak_ok3 hv he).1, (ak_ok3 hv he).2.1, (ak_ok3 hv he).2.2, he, ha2]; exact ⟨rfl, rfl, rfl, rfl⟩)
  clear hv hak hk
  clear he ha2 hrc hvr
  have hM56 : m ≤ 56 := by omega
  have hN2 := hb
  have HN2 := Lib.hid hN2
  clear hN2 hb
  obtain ⟨r1, r2, r3, hB2⟩ := three_born W 69 40 69 (LEV e A c B d) (LV k el false (m : Int) ack p) ZE
  go_enter Try.func52, Try.ntmps52
  go_upto_region 1 with (fail)
  change Code.wp _ _ _ _ (((W.alloc (.cells (LEV e A c B d) 69)).alloc (.cells (LV k el false (m : Int) ack p) 40)).alloc (.cells ZE 69))
  generalize ((W.alloc (.cells (LEV e A c B d) 69)).alloc (.cells (LV k el false (m : Int) ack p) 40)).alloc (.cells ZE 69) = w1 at *
  have hH1 := hH.below hB2
  go_upto_region 3 with (first | ((with_reducible refine wp_load_g ?_ r1.range Try.underlying69 rfl (lev_info _ _ _ _ _) ?_ ?_); rfl; rfl) | (go_at_call 106; (with_reducible refine (end_is HV.out ht hH1).mono ?_); rintro en w2 ⟨rfl, hb2⟩; have r1 := r1.below hb2 r1.lt; have r2 := r2.below hb2 r2.lt; have r3 := r3.below hb2 r3.lt; have hB2 := hB2.trans (hb2.mono hB2.size)))
  clear hH1
  obtain ⟨l0, l1, l2, l3, l4⟩ := line_cells r2
  obtain ⟨⟨c0, c1, c2, c3, c4⟩, ⟨c5, c6, c7, c8, c9⟩, fz⟩ := end_cells r1
  go_upto_region 5 with (first | ((with_reducible refine wp_load_g ?_ r1.range Try.underlying69 rfl (lev_info _ _ _ _ _) ?_ ?_); rfl; rfl) | ((with_reducible refine wp_load_g ?_ r2.range Try.underlying40 rfl (line_info _ _ _ _ _ hl) ?_ ?_); rfl; rfl) | (go_at_call 109; (with_reducible refine (due_is HDU.out ht HV.out hl _).mono ?_); rintro en w3 ⟨rfl, hb3⟩; have r1 := r1.below hb3 r1.lt; have r2 := r2.below hb3 r2.lt; have r3 := r3.below hb3 r3.lt; have hB2 := hB2.trans (hb3.mono hB2.size); obtain ⟨l0, l1, l2, l3, l4⟩ := line_cells r2; obtain ⟨⟨c0, c1, c2, c3, c4⟩, ⟨c5, c6, c7, c8, c9⟩, fz⟩ := end_cells r1) | ((with_reducible refine wp_eql_g ?_ guard40 (HEQ _) ?_ ?_ ?_); rfl; rfl; rfl))
  go_upto_region 6 with ((go_at_call 35; (with_reducible refine (ackR_is HAK.out ht.s0 ht.s1 ht.a0 ha.1 ha.2 _).mono ?_); rintro en w5 ⟨rfl, hb5⟩; have r1 := r1.below hb5 r1.lt; have r2 := r2.below hb5 r2.lt; have r3 := r3.below hb5 r3.lt; have hB2 := hB2.trans (hb5.mono hB2.size)))
  have hal := (Below.refl w5.heap.size w5).alloc (Nat.le_refl _) (.cells #[.int .i64 e.n, .int .u64 e.s, .int .u64 a2] 27)
  have r9 := Row.born w5 27 #[.int .i64 e.n, .int .u64 e.s, .int .u64 a2]
  have hg9 : W.heap.size + 2 < w5.heap.size := r3.lt
  have r1 := r1.below hal r1.lt
  have r2 := r2.below hal r2.lt
  have r3 := r3.below hal r3.lt
  have hB2 := hB2.trans (hal.mono hB2.size)
  clear hal c0 c1 c2 c3 c4 c5 c6 c7 c8 c9 fz l0 l1 l2 l3 l4
  generalize w5.alloc (.cells #[.int .i64 e.n, .int .u64 e.s, .int .u64 a2] 27) = w6 at *
  generalize w5.heap.size = g9 at *
  obtain ⟨l0, l1, l2, l3, l4⟩ := line_cells r2
  obtain ⟨⟨c0, c1, c2, c3, c4⟩, ⟨c5, c6, c7, c8, c9⟩, fz⟩ := end_cells r1
  have hH6 := hH.below hB2
  go_upto_region 11 with (first | ((with_reducible refine wp_load_g ?_ r1.range Try.underlying69 rfl (lev_info _ _ _ _ _) ?_ ?_); rfl; rfl) | (go_at_call 47; (with_reducible refine (copyT e A B c d _ ht hH6).mono ?_); rintro en w7 ⟨A4, c4x, B4, d4x, mid, rfl, -, hqi, hp4, hmid, hb7⟩) | ((with_reducible refine wp_row_store (L := LEV e A4 c4x B4 d4x) (Row.bornAt (g := w7.heap.size) rfl 69 _) ?_ (lev_info _ _ _ _ _) (lev_one _ _ _ _ _) ?_ ?_ ?_); rfl; rfl; rfl; intro w8 v8 r5))
  have hal := Upd.below ((Below.refl w7.heap.size w7).alloc (Nat.le_refl _) (.cells ZE 69)) v8 (Nat.le_refl _)
  have hbl := hb7.trans (hal.mono hb7.size)
  have hg9' := r9.lt
  have hgg : g9 < w7.heap.size := Nat.lt_of_lt_of_le hg9' hb7.size
  have r1 := r1.below hbl r1.lt
  have r2 := r2.below hbl r2.lt
  have r3 := r3.below hbl r3.lt
  have r9 := r9.below hbl r9.lt
  have hqi := (hqi.below hal).lower hB2.size
  have hp4 := hp4.below hal
  have hmid := Nat.le_trans hB2.size hmid
  have hB := hB2.trans (hbl.mono hB2.size)
  clear hal hbl hb7 v8 hH6 hB2 hg9' c0 c1 c2 c3 c4 c5 c6 c7 c8 c9 fz l0 l1 l2 l3 l4
  generalize w7.heap.size = g at *
  have q0 : w8.cell? ⟨g9, 0, none⟩ = some (.int .i64 e.n) := r9.cell 0
  have q1 : w8.cell? ⟨g9, 1, none⟩ = some (.int .u64 e.s) := r9.cell 1
  have q2 : w8.cell? ⟨g9, 2, none⟩ = some (.int .u64 a2) := r9.cell 2
  go_upto_region 12 with ((refine wp_put_mid (pre := []) (cs := [.int .i64 e.n, .int .u64 e.s, .int .u64 e.a]) (post := [.int .i64 e.rn, .int .u64 e.rc, .slice A4 e.q.length c4x, .int .i64 e.off, .int .i64 e.want, .slice B4 e.pt.length d4x, .int .u64 e.told]) (L := #[.int .i64 e.n, .int .u64 e.s, .int .u64 a2]) r5 rfl rfl info27 (sender_one _ _ _) ?_ ?_ ?_; rfl; rfl; intro wa ua ra))
  clear q0 q1 q2
  have r5' : Row wa g 69 (LEV { e with a := a2 } A4 c4x B4 d4x) := ra
  have r2 := r2.upd ua (by omega)
  have r3 := r3.upd ua (by omega)
  have hqi := hqi.keeps (Keeps.upd (ts := [69]) ua r5 (by simp)) (by decide) (by decide)
  have hp4 := hp4.keeps (Keeps.upd (ts := [69]) ua r5 (by simp)) (by decide)
  have hB := Upd.below hB ua (by omega)
  clear r5 ua ra r9 r1
  have r5 := r5'
  clear r5'
  obtain ⟨l0, l1, l2, l3, l4⟩ := line_cells r2
  have k5 : wa.cell? ⟨g, 4, none⟩ = some (.int .u64 e.rc) := r5.cell 4
  have f5 := r5.frozen 4
  have hwr : IntKind.u64.wrap (e.rc + 1) = e.rc + 1 := by rw [IntKind.wrap_u64]; have := ht.r0; omega
  go_upto_region 15 with (fail)
  have uk := Upd.setCell wa g 4 (.int .u64 (e.rc + 1))
  have r5' : Row (wa.setCell ⟨g, 4, none⟩ (.int .u64 (e.rc + 1))) g 69 (LEV { e with a := a2, rc := e.rc + 1 } A4 c4x B4 d4x) := r5.set 4 (.int .u64 (e.rc + 1))
  have kk := Keeps.upd (ts := [69]) uk r5 (by simp)
  have r2 := r2.upd uk (by omega)
  have r3 := r3.upd uk (by omega)
  have hqi := hqi.keeps kk (by decide) (by decide)
  have hp4 := hp4.keeps kk (by decide)
  have hB := Upd.below hB uk (by omega)
  clear r5 uk kk k5 f5
  generalize wa.setCell ⟨g, 4, none⟩ (.int .u64 (e.rc + 1)) = wb at *
  have r5 := r5'
  clear r5'
  obtain ⟨l0, l1, l2, l3, l4⟩ := line_cells r2
  go_upto_region 19 with (fail)
  have hwz : wb = wb := rfl
  generalize wb = wz at *
  have hi0 : (0 : Int) ≤ (m : Int) := by omega
  have hi1 : (m : Int) ≤ 56 := by omega
  have hB : Below W.heap.size W wz.drew := hB.drew
  have r5 : Row wz.drew g 69 (LEV { e with a := a2, rc := e.rc + 1, want := e.want } A4 c4x B4 d4x) := r5
  have r2 : Row wz.drew (W.heap.size + 1) 40 (LV k el false (m : Int) ack p) := r2
  have r3 : Row wz.drew (W.heap.size + 2) 69 ZE := r3
  have hqi := hqi.below (Below.refl _ _).drew
  have hp4 : OwnB wz.drew mid 5 B4 e.pt.length d4x e.pt := hp4
  clear l0 l1 l2 l3 l4
  have hIb : IsB wz.drew (some ⟨W.heap.size + 1, 5, none⟩) m (p.take m) := (pay_isB r2 hl).pre m (by omega)
  refine wp_region_late (n := 100) [7, 9] (DrS W wz.drew g (W.heap.size + 2) (W.heap.size + 1) mid (fun v => EV { e with a := a2, rc := e.rc + 1, want := e.want } (.slice A4 e.q.length c4x) v) (.slice B4 e.pt.length d4x) (LV k el false m ack p) A4 e.q.length c4x e.q (e.pt.length + m) (e.pt ++ (p.take m))) (fun _ _ => True) (by kernel_rfl) (by kernel_rfl) (by rfl) DrS.loc ⟨hB, hqi, r3, r2, fun _ => rfl, fun _ => r5, fun h => by omega, fun h => by omega⟩ ?_
  generalize wz.drew = w0 at *
  refine late_pure (by simp) (fun w => trivial) (v := ?_) (fun _ => rfl) ?_ ?_; rotate_left; (focus (intro c9 us w9 hm9 hS9 hF; clear hF hm9; go_simp; (try with_reducible rfl); done)); simp only [Act.put, List.setIfInBounds_toArray, List.set_cons_zero, List.set_cons_succ, Nat.reduceAdd]
  refine late_pure (by simp) (fun w => trivial) (v := ?_) (fun _ => rfl) ?_ ?_; rotate_left; (focus (intro c9 us w9 hm9 hS9 hF; have hc9 : c9 < 1 := (by rcases Nat.lt_or_ge c9 1 with h9 | h9; exact h9; exact absurd hm9 (by rw [mayAt_no (d := 0) (by kernel_rfl) (by omega) (by decide)]; decide)); have h0 : c9 = 0 := (by omega); have k5 : w9.cell? ⟨g, 8, none⟩ = some (.slice B4 e.pt.length d4x) := (hS9.2.2.2.2.2.1 (by omega)).cell 8; clear hF hm9; go_simp; (try with_reducible rfl); done)); simp only [Act.put, List.setIfInBounds_toArray, List.set_cons_zero, List.set_cons_succ, Nat.reduceAdd]
  refine late_pure (by simp) (fun w => trivial) (v := ?_) (fun _ => rfl) ?_ ?_; rotate_left; (focus (intro c9 us w9 hm9 hS9 hF; clear hF hm9; go_simp; (try with_reducible rfl); done)); simp only [Act.put, List.setIfInBounds_toArray, List.set_cons_zero, List.set_cons_succ, Nat.reduceAdd]
  refine late_pure (by simp) (fun w => trivial) (v := ?_) (fun _ => rfl) ?_ ?_; rotate_left; (focus (intro c9 us w9 hm9 hS9 hF; clear hF hm9; go_simp; (try with_reducible rfl); done)); simp only [Act.put, List.setIfInBounds_toArray, List.set_cons_zero, List.set_cons_succ, Nat.reduceAdd]
  refine late_pure (by simp) (fun w => trivial) (v := ?_) (fun _ => rfl) ?_ ?_; rotate_left; (focus (intro c9 us w9 hm9 hS9 hF; clear hF hm9; go_simp; (try with_reducible rfl); done)); simp only [Act.put, List.setIfInBounds_toArray, List.set_cons_zero, List.set_cons_succ, Nat.reduceAdd]
  refine late_pure (by simp) (fun w => trivial) (v := ?_) (fun _ => rfl) ?_ ?_; rotate_left; (focus (intro c9 us w9 hm9 hS9 hF; obtain ⟨y0, y1, y2, y3, y4⟩ := line_cells hS9.2.2.2.1; clear hF hm9; go_simp; (try with_reducible rfl); done)); simp only [Act.put, List.setIfInBounds_toArray, List.set_cons_zero, List.set_cons_succ, Nat.reduceAdd]
  refine late_pure (by simp) (fun w => trivial) (v := .slice (some ⟨W.heap.size + 1, 5, none⟩) m 56) (fun _ => rfl) ?_ ?_; (focus (intro c9 us w9 hm9 hS9 hF; clear hF hm9; go_simp; (try with_reducible rfl); done)); simp only [Act.put, List.setIfInBounds_toArray, List.set_cons_zero, List.set_cons_succ, Nat.reduceAdd]
  refine late_chain (by simp) ?_ ?_; (focus (intro us w9 hS9 hF K hK; clear hF; obtain rfl := hS9.2.2.2.2.1 rfl; rw [if_pos (by rfl)]; exact step_append_b (P := Try.prog) (c' := 56) Try.underlying44 info_b hp4 hIb (by omega) (Nat.le_trans hqi.1 (Nat.le_refl _) |> fun h => h) rfl rfl (fun A' c'' w' h1 h2 h3 h4 => hK _ w' (hS9.one hp4 hmid h1 h2 h3) trivial))); simp only [Act.put, List.setIfInBounds_toArray, List.set_cons_zero, List.set_cons_succ, Nat.reduceAdd]
  refine late_pure (by simp) (fun w => trivial) (v := ?_) (fun _ => rfl) ?_ ?_; rotate_left; (focus (intro c9 us w9 hm9 hS9 hF; clear hF hm9; go_simp; (try with_reducible rfl); done)); simp only [Act.put, List.setIfInBounds_toArray, List.set_cons_zero, List.set_cons_succ, Nat.reduceAdd]
  refine late_store rfl ?_ ?_; (focus (intro us w9 hS9 hF K hK; clear hF; obtain ⟨B', d', hu, ho9⟩ := hS9.2.2.2.2.2.2.1 rfl; simp only [hu] at hK ⊢; have hr9 := hS9.2.2.2.2.2.1 (by omega); have k9 : w9.cell? ⟨g, 8, none⟩ = some (.slice B4 e.pt.length d4x) := hr9.cell 8; have f9 := hr9.frozen 8; have hS10 := hS9.two hu ho9 (fun _ _ => rfl) (by omega) (by omega) (by omega); go_simp; exact hK _ hS10 trivial)); simp only [Nat.reduceAdd]
  refine late_done fun us wx hS8 hF => ?_
  obtain ⟨hB, hqi, r3, r2, -, -, -, h8⟩ := hS8
  obtain ⟨B', d', r5x, hp5⟩ := h8 (by omega)
  clear hF h8 hp4 r5
  have hNN := HPl.out
  obtain ⟨N, hN⟩ : ∃ N, e.pt.length + m = N := ⟨_, rfl⟩
  rw [hN] at r5x hp5
  have HNN := Lib.hid (hNN.trans hN)
  have dN : decide ((N : Int) < e.want) = false := by have := HN2.out; exact decide_eq_false (by omega)
  clear hN hNN hIb
  have k5 : wx.cell? ⟨g, 8, none⟩ = some (.slice B' N d') := r5x.cell 8
  have f5 := r5x.frozen 8
  have k7 : wx.cell? ⟨g, 7, none⟩ = some (.int .i64 e.want) := r5x.cell 7
  have r5 := r5x
  have hp4 := hp5
  clear r5x hp5
  go_upto_region 24 with (fail)
  clear k7
  have uk := Upd.setCell wx g 8 (.slice none 0 0)
  have r5' : Row (wx.setCell ⟨g, 8, none⟩ (.slice none 0 0)) g 69 (EV { e with a := a2, rc := e.rc + 1, want := e.want } (.slice A4 e.q.length c4x) (.slice none 0 0)) := r5.set 8 (.slice none 0 0)
  have kk := Keeps.upd (ts := [69]) uk r5 (by simp)
  have r2 := r2.upd uk (by omega)
  have r3 := r3.upd uk (by omega)
  have hqi := hqi.keeps kk (by decide) (by decide)
  have hp4 := hp4.keeps kk (by decide)
  have hB := Upd.below hB uk (by omega)
  clear r5 uk kk k5 f5
  generalize wx.setCell ⟨g, 8, none⟩ (.slice none 0 0) = wy at *
  have r5 := r5'
  clear r5'
  have k5 : wy.cell? ⟨g, 7, none⟩ = some (.int .i64 e.want) := r5.cell 7
  have f5 := r5.frozen 7
  go_upto_region 25 with (fail)
  have uk := Upd.setCell wy g 7 (.int .i64 (-1))
  have r5' : Row (wy.setCell ⟨g, 7, none⟩ (.int .i64 (-1))) g 69 (LEV { e with a := a2, rc := e.rc + 1, want := -1, pt := [] } A4 c4x none 0) := r5.set 7 (.int .i64 (-1))
  have kk := Keeps.upd (ts := [69]) uk r5 (by simp)
  have r2 := r2.upd uk (by omega)
  have r3 := r3.upd uk (by omega)
  have hqi := hqi.keeps kk (by decide) (by decide)
  have hp4 := hp4.keeps kk (by decide)
  have hB := Upd.below hB uk (by omega)
  clear r5 uk kk k5 f5
  generalize wy.setCell ⟨g, 7, none⟩ (.int .i64 (-1)) = wq at *
  have r5 := r5'
  clear r5'
  go_wp2_with (first | ((with_reducible refine wp_load_g ?_ r5.range Try.underlying69 rfl (lev_info _ _ _ _ _) ?_ ?_); rfl; rfl) | ((with_reducible refine wp_row_store (L := LEV { e with a := a2, rc := e.rc + 1, want := -1, pt := [] } A4 c4x none 0) r3 rfl (lev_info _ _ _ _ _) (lev_one _ _ _ _ _) ?_ ?_ ?_); rfl; rfl; intro w9 u9 rr9))
  have k9 := Keeps.upd (ts := [69]) u9 r3 (by simp)
  refine bodyPost_ret (results_cttt rfl rfl rr9 Try.underlying69 rfl (lev_info _ _ _ _ _)) rfl ?_
  refine .inr ⟨HE.out, A4, c4x, none, 0, B', d', by rw [HG.out, HM.out, HC.out, HNN.out]; rfl, ?_, ?_, Upd.below hB u9 (by omega)⟩
  · rw [HG.out]
    exact QI.heldI (e := { e with a := a2, rc := e.rc + 1, want := -1, pt := [] }) (hqi.keeps k9 (by decide) (by decide)) (OwnB.nil _ _ _)
  · rw [HM.out, HNN.out]
    exact (hp4.lower hmid).keeps k9 (by decide)
theorem deliverR (e : LE) (A B : Option Addr) (c d : Nat) (k : Int) (el fl : Bool) (len ack : Int) (p : List UInt8) (W : World) (ht : e.ty) (hH : Held W e A c B d) (hl : p.length = 56) (ha : 0 ≤ ack ∧ ack < 65536) : Calls Try.prog 52 #[.agg (LEV e A c B d), .agg (LV k el fl len ack p)] W (DvI e k el fl len ack p W) := by
  cases hv : vE e
  · exact dvr_v e A B c d k el fl len ack p W ht hH hl ha hv
  cases hak : akB k el fl len ack p
  · by_cases hk : k = 1
    · cases hdu : duB e el fl len p
      · exact dvr_bad1 e A B c d k el fl len ack p W ht hH hl ha hv hk hdu hak
      · by_cases he : akE e.n e.s e.a ack = 0
        · by_cases hrc : e.rc = 4611686018427387904
          · exact dvr_lim e A B c d k el fl len ack p W ht hH hl ha hv hk hdu hak he hrc
          · have hve := vE_yes hv
            have h := hdu
            unfold duB at h
            simp only [Bool.and_eq_true, decide_eq_true_eq] at h
            obtain ⟨⟨⟨⟨⟨-, h2⟩, h3⟩, h4⟩, -⟩, h6⟩ := h
            cases fl
            · obtain ⟨m, rfl⟩ : ∃ m : Nat, len = m := ⟨len.toNat, by omega⟩
              rw [if_neg (by simp), beq_iff_eq] at h6
              by_cases hR : 56 < e.want - e.pt.length
              · exact dvr_dS0 e A B c d k el m ack p W ht hH hl ha hv hk hdu hak he hrc (by omega) hR
              · exact dvr_dS1 e A B c d k el m ack p W ht hH hl ha hv hk hdu hak he hrc (by omega) (by omega)
            · rw [if_pos rfl] at h6
              simp only [Bool.and_eq_true, decide_eq_true_eq, beq_iff_eq] at h6
              obtain ⟨⟨h7, h8⟩, h9⟩ := h6
              obtain ⟨b, rfl⟩ : ∃ b : Nat, len = (b : Int) + 4 := ⟨(len - 4).toNat, by omega⟩
              have hp0 : e.pt.length = 0 := by
                have hw : e.want = -1 := by rw [want_neg hve] at h2; simpa using h2
                have h10 := hve.part
                unfold partOk at h10
                rw [if_pos hw] at h10
                simpa using h10
              by_cases hh : acH p ≤ 52
              · exact dvr_dF1 e A B c d k el b ack p W ht hH hl ha hv hk hdu hak he hrc (by omega) hh hp0
              · exact dvr_dF0 e A B c d k el b ack p W ht hH hl ha hv hk hdu hak he hrc (by omega) h8 (by omega) hp0
        · exact dvr_err1 e A B c d k el fl len ack p W ht hH hl ha hv hk hdu hak he
    · exact dvr_bad2 e A B c d k el fl len ack p W ht hH hl ha hv hk hak
  · have hk : k ≠ 1 := by have := ((ak_iff hl).1 hak).1; omega
    by_cases he : akE e.n e.s e.a ack = 0
    · exact dvr_oka e A B c d k el fl len ack p W ht hH hl ha hv hk hak he
    · exact dvr_err2 e A B c d k el fl len ack p W ht hH hl ha hv hk hak he
end
end Go.Proofs.Ythjkhambmgepdaa
