/- The walk of BinencSums. -/
import Derived.Test.YtajkhijphdnbpaaSpare
import Derived.Test.YtajkhijphdnbpaaIsRow
import Derived.Test.YtajkhijphdnbpaaRb
import Derived.Test.YtajkhijphdnbpaaPlace
import Derived.Deep.DeepCutAuto
namespace Go.Proofs.Ytajkhijphdnbpaa
open Go.RowKit
set_option linter.unusedVariables false
/-- A slice of 16-bit words reads as a list. -/
def IsW (w : World) (A : Option Addr) (n : Nat) (ws : List Nat) : Prop :=
  n = ws.length ∧ (∀ x ∈ ws, x < 65536) ∧ (0 < n → ∃ b o, A = some ⟨b, o, none⟩ ∧ ∀ i (h : i < ws.length), w.cell? ⟨b, o + i, none⟩ = some (.int .u16 (ws[i] : Nat)))
theorem wf_u16 {n : Int} (h : (Lit.int .u16 n).wf = true) : 0 ≤ n ∧ n < 65536 := by
  simp [Lit.wf, IntKind.min, IntKind.max, IntKind.bits, IntKind.signed] at h
  omega
theorem IsRow.isW {w : World} {a : Option Addr} {len cap : Nat} {zs : List Int} (h : IsRow .u16 w a len cap zs) : ∃ ws, IsW w a len ws ∧ len ≤ 9223372036854775807 := by
  rcases h with ⟨rfl, rfl, rfl, rfl⟩ | ⟨x, rfl, hl, hm, hz, hc, hw⟩
  · exact ⟨[], ⟨rfl, by simp, fun h => absurd h (by omega)⟩, by omega⟩
  · refine ⟨(zs.take len).map (fun z => z.toNat), ⟨by simp; omega, ?_, fun hn => ?_⟩, by simp only [maxLen] at hm; omega⟩
    · intro x hx
      obtain ⟨z, hz, rfl⟩ := List.mem_map.1 hx
      have := wf_u16 (hw z (List.mem_of_mem_take hz))
      omega
    · have h0 := hc 0 (by omega)
      obtain ⟨b, o, sp⟩ := x
      have hsp : sp = none := by simpa [Addr.add] using World.cell?_spot h0
      subst hsp
      refine ⟨b, o, rfl, fun i hi => ?_⟩
      have hi' : i < zs.length := by simp at hi; omega
      have := hc i hi'
      rw [Addr.add_mid] at this
      rw [this]
      have hg : zs.getD i 0 = zs[i] := by simp [hi']
      have hwi := wf_u16 (hw zs[i] (List.getElem_mem hi'))
      rw [hg]
      congr 2
      simp only [List.getElem_map, List.getElem_take]
      omega
theorem IsW.at_ {w w' : World} {A : Option Addr} {n : Nat} {ws : List Nat} (h : IsW w A n ws) (hb : Below w.heap.size w w') (hn : 0 < n) :
    ∃ b o, A = some ⟨b, o, none⟩ ∧ b < w.heap.size ∧ ∀ i (h : i < ws.length), w'.cell? ⟨b, o + i, none⟩ = some (.int .u16 (ws[i] : Nat)) := by
  obtain ⟨b, o, e, hc⟩ := h.2.2 hn
  have h1 := h.1
  exact ⟨b, o, e, block_lt_of_cell (hc 0 (by omega)), fun i hi => (hb.cell (p := ⟨b, o + i, none⟩) (block_lt_of_cell (hc i hi))).trans (hc i hi)⟩
def wb (x : Nat) : List UInt8 := [UInt8.ofNat (x / 256), UInt8.ofNat (x % 256)]
def flat : List Nat → List UInt8
  | [] => []
  | x :: r => wb x ++ flat r
theorem flat_append : ∀ (xs ys : List Nat), flat (xs ++ ys) = flat xs ++ flat ys
  | [], ys => rfl
  | a :: xs, ys => by simp [flat, flat_append xs ys]
theorem flat_len : ∀ xs : List Nat, (flat xs).length = 2 * xs.length
  | [] => rfl
  | a :: xs => by simp [flat, wb, flat_len xs]; omega
theorem flat_snoc {ws : List Nat} {k : Nat} (h : k < ws.length) : flat (ws.take (k + 1)) = flat (ws.take k) ++ wb ws[k] := by
  rw [List.take_succ_eq_append_getElem h, flat_append]; simp [flat]
/-- The words from k on, then those before. -/
def rot (ws : List Nat) (k : Nat) : List Nat := ws.drop k ++ ws.take k
theorem rot_len (ws : List Nat) (k : Nat) (h : k ≤ ws.length) : (rot ws k).length = ws.length := by simp [rot]; omega
theorem rot_get (ws : List Nat) (k i : Nat) (h : k ≤ ws.length) (hi : i < ws.length) : (rot ws k)[i]'(by rw [rot_len ws k h]; exact hi) = ws[(i + k) % ws.length]'(Nat.mod_lt _ (by omega)) := by
  simp only [rot, List.getElem_append, List.length_drop]
  split
  · rename_i h1
    simp only [List.getElem_drop]
    congr 1
    rw [Nat.mod_eq_of_lt (by omega)]; omega
  · rename_i h1
    simp only [List.getElem_take]
    congr 1
    rw [show i + k = (i - (ws.length - k)) + ws.length by omega, Nat.add_mod_right, Nat.mod_eq_of_lt (by omega)]
theorem sum_rot (ws : List Nat) (k : Nat) : sum16 (flat (rot ws k)) = sum16 (flat ws) := by
  have e : WS (flat (rot ws k)) = WS (flat ws) := by
    conv => rhs; rw [← List.take_append_drop k ws]
    rw [rot, flat_append, flat_append, WS_append _ _ (by rw [flat_len]; omega), WS_append _ _ (by rw [flat_len]; omega)]
    omega
  unfold sum16
  rw [e]
/-- Two slices that lie in different blocks, or of which one has none. -/
def Far (x y : Option Nat) : Prop := ∀ k, x = some k → y ≠ some k
theorem Far.symm {x y : Option Nat} (h : Far x y) : Far y x := fun k hy hx => h k hx hy
theorem Far.or {x y : Option Nat} (h : Far x y) : x = none ∨ x ≠ y := by
  cases x with
  | none => exact .inl rfl
  | some k => exact .inr fun e => h k rfl e.symm
/-- Behind an append onto x, y is as it was and lies apart from the new x. -/
theorem OwnB.other {w w' : World} {base : Nat} {e : TypeId} {A B A' : Option Addr} {n c m d n' c' : Nat} {cs : List UInt8} (hy : OwnB w base e B m d cs) (hf : Far (Value.slice A n c).ownBlock (Value.slice B m d).ownBlock)
    (hg : w.grownBy w' (Value.slice A n c).ownBlock) (hat : (Value.slice A' n' c').ownBlock = (Value.slice A n c).ownBlock ∨ (Value.slice A' n' c').ownBlock = some w.heap.size) :
    OwnB w' base e B m d cs ∧ Far (Value.slice A' n' c').ownBlock (Value.slice B m d).ownBlock := by
  refine ⟨World.ownsRow.kept hy hg hf.symm.or, fun k hx hyk => ?_⟩
  rcases hat with h | h
  · exact hf k (h.symm.trans hx) hyk
  · have := (World.ownsRow.lt hy k hyk).2
    rw [h] at hx
    injection hx with hx
    omega
theorem is_wb (w : World) (x : Nat) (h : x < 65536) : IsB (w.alloc (.cells #[.int .u8 ((x : Int) / 256), .int .u8 ((x : Int) % 256)] 5)) (some ⟨w.heap.size, 0, none⟩) 2 (wb x) := by
  have e : (#[.int .u8 ((x : Int) / 256), .int .u8 ((x : Int) % 256)] : Array Value) = ((wb x).map bv).toArray := by
    simp only [wb, List.map_cons, List.map_nil]
    rw [← bv_nat (x / 256) (by omega), ← bv_nat (x % 256) (by omega)]
    rfl
  rw [e]
  exact IsB.lit w 5 (0, 0) (wb x)
theorem is_one (w : World) (x : Nat) (h : x < 256) : IsB (w.alloc (.cells #[.int .u8 (x : Int)] 5)) (some ⟨w.heap.size, 0, none⟩) 1 [UInt8.ofNat x] := by
  rw [bv_nat x h]
  exact IsB.lit w 5 (0, 0) [UInt8.ofNat x]
theorem is_zero (w : World) : IsB (w.alloc (.cells #[.int .u8 0] 5)) (some ⟨w.heap.size, 0, none⟩) 1 [0] := IsB.lit w 5 (0, 0) [0]
theorem wb_num (x : Nat) (h : x < 65536) : (UInt8.ofNat (x / 256)).toNat * 256 + (UInt8.ofNat (x % 256)).toNat = x := by
  rw [UInt8.toNat_ofNat', UInt8.toNat_ofNat']
  omega
section
variable {P : Program} {ops : Array Oper} {rest : List Oper} {Q : Exit → Act → World → Prop} {a : Act} {w : World} {dst : Option Tmp} {typ : TypeId} {pos : String} {after : Array Edge}
/-- The same where the operation is guarded, and the guard lets it run. -/
theorem wp_append_g {o : Oper} (hgd : Region.wanted o (yielded ops a.tmps) = true) (s x : Operand) (t : TypeId) (ho : o.op = .call { callee := .builtin .append, args := #[s, x], argTypes := #[t, t] }) {e : TypeId} {base n c m c' : Nat} {A B : Option Addr} {bs cs : List UInt8} (ht : P.underlying t = some (.slice e))
    (hinfo : (P.info? e).map (fun i => (i.zero, i.size, i.bytes)) = some (some (.int .u8 0), 1, 1)) (hown : OwnB w base e A n c bs) (hB : IsB w B m cs) (hlen : n + m ≤ 140737488355328) (hbase : base ≤ w.heap.size)
    (hs : a.eval s = .slice A n c) (hx : a.eval x = .slice B m c')
    (h : ∀ A' n' c'' w', Hid (n' = n + m) → OwnB w' base e A' n' c'' (bs ++ cs) → Below base w w' → w.grownBy w' (Value.slice A n c).ownBlock → ((Value.slice A' n' c'').ownBlock = (Value.slice A n c).ownBlock ∨ (Value.slice A' n' c'').ownBlock = some w.heap.size) → wpList P ops Q rest (a.put o.dst (.slice A' n' c'')) w') :
    wpList P ops Q (o :: rest) a w := by
  obtain ⟨i, hi, hz⟩ := Option.map_eq_some_iff.1 hinfo
  simp only [Prod.mk.injEq] at hz
  obtain ⟨hz0, hz1, hz2⟩ := hz
  have key : ∃ A' c'' w', (Builtin.append_ #[t, t] o.type #[.slice A n c, .slice B m c']).run P w = .ok (.slice A' (n + m) c'') w' ∧ OwnB w' base e A' (n + m) c'' (bs ++ cs) ∧ w.grownBy w' (Value.slice A n c).ownBlock ∧ ((Value.slice A' (n + m) c'').ownBlock = (Value.slice A n c).ownBlock ∨ (Value.slice A' (n + m) c'').ownBlock = some w.heap.size) := by
    rcases Nat.eq_zero_or_pos m with h0 | h0
    · subst h0
      obtain rfl : cs = [] := List.eq_nil_of_length_eq_zero hB.1.symm
      refine ⟨A, c, w, ?_, by simpa using hown, World.grownBy.refl w _, .inl rfl⟩
      rcases hown.2 with ⟨h', hn⟩ | ⟨g, cap, cur, h', _, _, hnc, _⟩
      · injection h' with h1 h2 h3
        subst h1; subst h2; subst h3
        cases B <;> simp [Builtin.append_, run_underlying ht, sizeOf, typeInfo, hi, Builtin.lenOf, Builtin.firstCells, loadCells, loadCellsFrom]
      · injection h' with h1 h2 h3
        subst h1; subst h3
        cases B <;> simp [Builtin.append_, run_underlying ht, sizeOf, typeInfo, hi, Builtin.lenOf, Builtin.firstCells, hnc, storeCells, loadCells, loadCellsFrom]
    · obtain ⟨ad, rfl, hsrc⟩ := hB.src h0
      obtain ⟨v', w', hr, h2, h3, h4, h5⟩ := run_append_own_at (P := P) w base t o.type e i _ 1 1 ht hi hz0 hz1 hz2 rfl (by omega) (.slice A n c) n (bs.map bv) hown ad m c' (cs.map bv)
        (by simp [← hB.1]) hsrc (bv_one cs) (by simp only [maxLen]; omega) (by omega) hbase
      rcases h2.2 with ⟨rfl, hn0⟩ | ⟨g, cap, cur, rfl, rest'⟩
      · omega
      · exact ⟨_, _, _, hr, by unfold OwnB; rw [List.map_append]; exact h2, h3, h5⟩
  obtain ⟨A', c'', w', hr, h2, h3, h5⟩ := key
  refine wpList_step fun K hK => ?_
  rw [if_pos hgd]
  unfold Oper.wp execOp
  simp only [ho, resolve, invoke, builtin, Sem.run_bind, Sem.run_pure, Result.andThen_ok, List.map_toArray, List.map_cons, List.map_nil, hs, hx, hr]
  exact hK _ _ (h _ _ _ _ (Lib.hid rfl) h2 ((Below.refl _ _).grown h3 hbase hown.ge) h3 h5)
end
set_option maxHeartbeats 2000000 in
theorem law_sums (A : Option Addr) (n c : Nat) (ws : List Nat) (odd : Nat) (by_ : Int) (w : World) (hA : IsW w A n ws) (hn : n ≤ 9223372036854775807) (hodd : odd < 256) :
    Calls Try.prog 6 #[.slice A n c, .int .u8 (odd : Nat), .int .i64 by_] w (True1 w) := by
  rcases Nat.lt_or_ge 500 n with hbad | hn5
  · go_enter Try.func6, Try.ntmps6
    go_wp2_with (go_at_call 13; refine (awake01 _).mono ?_; rintro e w1 ⟨rfl, hb1⟩)
    go_ret
    exact ⟨rfl, hb1⟩
  · have hl := Lib.hid hA.1
    go_enter Try.func6, Try.ntmps6
    go_wp2_with fail
    refine (place by_ ((n : Int) + 1) (by omega) (by omega) _).mono ?_
    rintro e w' ⟨rfl, rfl⟩
    obtain ⟨K, hK, hK1⟩ : ∃ K : Nat, by_ % ((n : Int) + 1) = (K : Int) ∧ K ≤ n := by
      have h0 := Int.emod_nonneg by_ (show (n : Int) + 1 ≠ 0 by omega)
      have h1 := Int.emod_lt_of_pos by_ (show 0 < (n : Int) + 1 by omega)
      exact ⟨(by_ % ((n : Int) + 1)).toNat, by omega, by omega⟩
    rw [hK]
    clear hK
    go_wp2_with fail
    go_loopw [8, 9, 10] (fun v8 v9 i wr => ∃ (k : Nat) (A8 : Option Addr) (n8 c8 : Nat) (A9 : Option Addr) (n9 c9 : Nat), k ≤ n ∧ i = .int .i64 k ∧ v8 = .slice A8 n8 c8 ∧ v9 = .slice A9 n9 c9 ∧
      OwnB wr w.heap.size 5 A8 n8 c8 (flat (ws.take k)) ∧ OwnB wr w.heap.size 5 A9 n9 c9 (flat ((rot ws K).take k)) ∧ Far (Value.slice A8 n8 c8).ownBlock (Value.slice A9 n9 c9).ownBlock ∧ Below w.heap.size w wr) (fun _ _ i _ => n - (intOf i).toNat)
    case atStart => exact ⟨0, none, 0, 0, none, 0, 0, by omega, rfl, rfl, rfl, OwnB.nil _ _ _, OwnB.nil _ _ _, fun k h => by simp [Value.ownBlock] at h, Below.refl _ _⟩
    case round =>
      obtain ⟨k, A8, n8, c8, A9, n9, c9, hk, rfl, rfl, rfl, o8, o9, hfar, hb⟩ := hrel
      by_cases hkn : k < n
      · obtain ⟨b, o, rfl, hblt, hc⟩ := hA.at_ hb (by omega)
        have hkl : k < ws.length := by have := hl.out; omega
        have hml : (k + K) % ws.length < ws.length := Nat.mod_lt _ (by omega)
        have hkr : k < (rot ws K).length := by rw [rot_len ws K (by have := hl.out; omega)]; exact hkl
        obtain ⟨x, hx⟩ : ∃ x, x = ws[k] := ⟨_, rfl⟩
        obtain ⟨y, hy⟩ : ∃ y, y = (rot ws K)[k] := ⟨_, rfl⟩
        have hx6 : x < 65536 := by rw [hx]; exact hA.2.1 _ (List.getElem_mem hkl)
        have hy6 : y < 65536 := by rw [hy, rot_get ws K k (by have := hl.out; omega) hkl]; exact hA.2.1 _ (List.getElem_mem hml)
        have hc1 : wr.cell? ⟨b, o + k, none⟩ = some (.int .u16 (x : Nat)) := by rw [hx]; exact hc k hkl
        have hc2 : wr.cell? ⟨b, o + (k + K) % n, none⟩ = some (.int .u16 (y : Nat)) := by
          have e := hl.out
          subst e
          rw [hy, rot_get ws K k (by omega) hkl]
          exact hc _ hml
        have F8 : Hid (flat (ws.take (k + 1)) = flat (ws.take k) ++ wb x) := Lib.hid (by rw [flat_snoc hkl, hx])
        have F9 : Hid (flat ((rot ws K).take (k + 1)) = flat ((rot ws K).take k) ++ wb y) := Lib.hid (by rw [flat_snoc hkr, hy])
        clear hc hx hy hml
        have hm0 : 0 ≤ ((k : Int) + K) % n := Int.emod_nonneg _ (by omega)
        have hm1 : ((k : Int) + K) % n < n := Int.emod_lt_of_pos _ (by omega)
        have l8 : n8 + 2 ≤ 140737488355328 := by have := o8.len; rw [flat_len] at this; simp at this; omega
        have l9 : n9 + 2 ≤ 140737488355328 := by have := o9.len; rw [flat_len] at this; simp at this; omega
        go_wp2_with (first
          | (at_builtin; (refine wp_append_b (P := Try.prog) rfl _ _ 22 rfl Try.underlying22 info_b (OwnB.alloc o8 _) (is_wb _ x hx6) l8 (by have := hb.size; simp; omega) rfl rfl ?_); intro A1 n1 c1 w1 hn1 ho1 hb1 hg1 hat1; obtain ⟨p9, far1⟩ := OwnB.other (OwnB.alloc o9 _) hfar hg1 hat1; have hbw1 := (hb.alloc hb.size _).trans hb1)
          | (at_builtin; (refine wp_append_b (P := Try.prog) rfl _ _ 22 rfl Try.underlying22 info_b (OwnB.alloc p9 _) (is_wb _ y hy6) l9 (by have := hbw1.size; simp; omega) rfl rfl ?_); intro A2 n2 c2 w2 hn2 ho2 hb2 hg2 hat2; obtain ⟨p8, far2⟩ := OwnB.other (OwnB.alloc ho1 _) far1.symm hg2 hat2; have hbw2 := (hbw1.alloc hbw1.size _).trans hb2))
        exact ⟨⟨k + 1, A1, n1, c1, A2, n2, c2, by omega, by go_num, rfl, rfl, by rw [F8.out]; exact p8, by rw [F9.out]; exact ho2, far2.symm, hbw2⟩, by simp [intOf]; omega⟩
      · obtain rfl : k = n := by omega
        have hle : K ≤ ws.length := by have := hl.out; omega
        have e8 : ws.take k = ws := List.take_of_length_le (by have := hl.out; omega)
        have e9 : (rot ws K).take k = rot ws K := List.take_of_length_le (by rw [rot_len ws K hle]; have := hl.out; omega)
        rw [e8] at o8
        rw [e9] at o9
        clear e8 e9
        have l8 : n8 ≤ 1000 := by have := o8.len; rw [flat_len] at this; have := hl.out; omega
        have l9 : n9 ≤ 1000 := by have := o9.len; rw [flat_len, rot_len ws K hle] at this; have := hl.out; omega
        have l8a : n8 ≤ 1000000000 := by omega
        have l9a : n9 ≤ 1000000000 := by omega
        have l8b : 0 + n8 ≤ 140737488355328 := by omega
        have hev : (flat ws).length % 2 = 0 := by rw [flat_len]; omega
        have HSum : Hid (sum16 (flat ws) = sum16 (flat ws)) := Lib.hid rfl
        obtain ⟨S, hS⟩ : ∃ S, S = sum16 (flat ws) := ⟨_, rfl⟩
        have hS6 : S < 65536 := by have := sum16_le (flat ws); omega
        have HR := Lib.hid ((sum_rot ws K).trans hS.symm)
        have HZ := Lib.hid (sum_self (flat ws) hev (UInt8.ofNat (S / 256)) (UInt8.ofNat (S % 256)) (by rw [wb_num S hS6, hS]))
        have HE := Lib.hid (sum_zero_end (flat ws) hev (UInt8.ofNat odd))
        have HS := Lib.hid hS
        clear hS HSum hev
        go_upto_region 13 with ((go_at_call 17; refine (sum16_any _ n8 c8 (flat ws) _ o8.isB l8a).mono ?_; rintro e w' ⟨rfl, rfl⟩; rw [← HS.out]))
        go_upto_region 14 with (first
          | (at_builtin; (refine wp_append_b (P := Try.prog) rfl _ _ 22 rfl Try.underlying22 info_b (OwnB.nil wr wr.heap.size 5) o8.isB l8b (Nat.le_refl _) rfl rfl ?_); intro A1 n1 c1 w1 hn1 ho1 hb1 hg1 hat1)
          | (at_builtin; (refine wp_append_b (P := Try.prog) rfl _ _ 22 rfl Try.underlying22 info_b (OwnB.alloc ho1 _) (is_one _ odd hodd) (by have := hn1.out; omega) (by have := hb1.size; simp; omega) rfl rfl ?_); intro A2 n2 c2 w2 hn2 ho2 hb2 hg2 hat2))
        have q2 : Below wr.heap.size wr w2 := (hb1.alloc hb1.size _).trans hb2
        have l2 : n2 ≤ 1001 := by have := hn1.out; have := hn2.out; omega
        have o8' := o8.below q2
        have o9' := o9.below q2
        have hbw2 : Below w.heap.size w w2 := hb.trans (q2.mono hb.size)
        have l2b : 0 + n2 ≤ 140737488355328 := by omega
        have l2a : n2 ≤ 1000000000 := by omega
        clear hat1 hat2 hg1 hg2 ho1 hb1 hb2 hn1 hn2 q2
        go_wp2_with (first
          | (at_builtin; (refine wp_append_b (P := Try.prog) rfl _ _ 22 rfl Try.underlying22 info_b (OwnB.nil w2 w2.heap.size 5) o8'.isB l8b (Nat.le_refl _) rfl rfl ?_); intro A3 n3 c3 w3 hn3 ho3 hb3 hg3 hat3)
          | (at_builtin; (refine wp_append_b (P := Try.prog) rfl _ _ 22 rfl Try.underlying22 info_b (OwnB.alloc ho3 _) (is_wb _ S hS6) (by have := hn3.out; omega) (by have := hb3.size; simp; omega) rfl rfl ?_); intro A4 n4 c4 w4 hn4 ho4 hb4 hg4 hat4))
        have q4 : Below w2.heap.size w2 w4 := (hb3.alloc hb3.size _).trans hb4
        have l4 : n4 ≤ 1000000000 := by have := hn3.out; have := hn4.out; omega
        have i4 : IsB w4 A4 n4 (flat ws ++ wb S) := by simpa using ho4.isB
        have d4 := OwnB.below ho2 q4
        have o94 := OwnB.below o9' q4
        have hbw4 : Below w.heap.size w w4 := hbw2.trans (q4.mono hbw2.size)
        have e4 : IsB w4 A2 n2 (flat ws ++ [UInt8.ofNat odd]) := by simpa using d4.isB
        clear hat3 hat4 hg3 hg4 ho3 hb3 hb4 hn3 hn4 q4 ho4 ho2 o8' o9' o8 o9 hbw2
        refine (sum16_any A4 n4 c4 _ _ i4 l4).mono ?_
        rintro e w' ⟨rfl, rfl⟩
        rw [show sum16 (flat ws ++ wb S) = 0 from HZ.out]
        go_wp2_with fail
        refine (sum16_any A9 n9 c9 _ _ o94.isB l9a).mono ?_
        rintro e w' ⟨rfl, rfl⟩
        rw [show sum16 (flat (rot ws K)) = S from HR.out]
        go_wp2_with fail
        refine (sum16_any A2 n2 c2 _ _ e4 l2a).mono ?_
        rintro e w' ⟨rfl, rfl⟩
        generalize hT : sum16 (flat ws ++ [UInt8.ofNat odd]) = T at *
        have HT := Lib.hid hT
        clear hT
        go_wp2_with (first
          | (at_builtin; (refine wp_append_g (P := Try.prog) rfl _ _ 22 rfl Try.underlying22 info_b (OwnB.nil w4 w4.heap.size 5) e4 l2b (Nat.le_refl _) rfl rfl ?_); intro A5 n5 c5 w5 hn5 ho5 hb5 hg5 hat5)
          | (at_builtin; (refine wp_append_g (P := Try.prog) rfl _ _ 22 rfl Try.underlying22 info_b (OwnB.alloc ho5 _) (is_zero _) (by have := hn5.out; omega) (by have := hb5.size; simp; omega) rfl rfl ?_); intro A6 n6 c6 w6 hn6 ho6 hb6 hg6 hat6))
        have q6 : Below w4.heap.size w4 w6 := (hb5.alloc hb5.size _).trans hb6
        have l6 : n6 ≤ 1000000000 := by have := hn5.out; have := hn6.out; omega
        have i6 : IsB w6 A6 n6 (flat ws ++ [UInt8.ofNat odd] ++ [0]) := by simpa using ho6.isB
        have hbw6 : Below w.heap.size w w6 := hbw4.trans (q6.mono hbw4.size)
        clear hat5 hat6 hg5 hg6 ho5 hb5 hb6 hn5 hn6 q6 ho6 o94 hbw4
        refine (sum16_any A6 n6 c6 _ _ i6 l6).mono ?_
        rintro e w' ⟨rfl, rfl⟩
        rw [show sum16 (flat ws ++ [UInt8.ofNat odd] ++ [0]) = T from HE.out.symm]
        go_wp2_with (go_at_call 13; refine (awake01 _).mono ?_; rintro e w7 ⟨rfl, hb7⟩)
        go_ret
        exact ⟨rfl, hbw6.trans (hb7.mono hbw6.size)⟩
theorem walk_sums (W : World) (A : Option Addr) (n c : Nat) (zs : List Int) (odd by_ : Int) (h : IsRow .u16 W A n c zs) (ho : (Lit.int .u8 odd).wf = true) (_ : (Lit.int .i64 by_).wf = true) :
    Calls Try.prog 6 #[.slice A n c, .int .u8 odd, .int .i64 by_] W (True1 W) := by
  obtain ⟨ws, hA, hn⟩ := h.isW
  have hb := wf_u8 ho
  obtain ⟨X, rfl⟩ : ∃ X : Nat, odd = (X : Int) := ⟨odd.toNat, by omega⟩
  exact law_sums A n c ws X by_ W hA hn (by omega)
end Go.Proofs.Ytajkhijphdnbpaa
