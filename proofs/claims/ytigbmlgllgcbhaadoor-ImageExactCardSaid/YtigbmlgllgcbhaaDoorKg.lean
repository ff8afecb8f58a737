/- Image: the reference's read. -/
import Derived.Test.YtigbmlgllgcbhaaDoorIp
import Derived.Test.YtigbmlgllgcbhaaDoorIr
import Derived.Deep.RegionHeld3
import Derived.Deep.CutBlock
import Derived.Deep.CutRange
namespace Go.Proofs.YtigbmlgllgcbhaaDoor
open Go.RowKit
set_option linter.unusedVariables false
set_option linter.unusedSimpArgs false
theorem trim_end : ∀ (r : Nat) (a : List UInt8), (a = [] ∨ a.getD (a.length - 1) 0 ≠ 0) → Lib.trimRightB (a ++ zer r) 0 = a
  | 0, a, h => by
    rw [show zer 0 = [] from rfl, List.append_nil]
    unfold Lib.trimRightB
    rcases List.eq_nil_or_concat a with rfl | ⟨a, x, rfl⟩
    · rfl
    · have hx : x ≠ 0 := by
        rcases h with h | h
        · simp at h
        · simpa [List.getD] using h
      rw [List.concat_eq_append, List.reverse_append]
      simp [List.dropWhile_cons, hx]
  | r + 1, a, h => by
    have ih := trim_end r a h
    have e : a ++ zer (r + 1) = (a ++ zer r) ++ [0] := by rw [zer_add, ← List.append_assoc]; rfl
    rw [e]
    unfold Lib.trimRightB at ih ⊢
    rw [List.reverse_append]
    have e2 : ([0] : List UInt8).reverse = [0] := rfl
    rw [e2, List.singleton_append, List.dropWhile_cons]
    exact ih
theorem trim_q (l : List UInt8) (q : Nat) (hq : q ≤ l.length) (hz : ∀ i, q ≤ i → i < l.length → l.getD i 0 = 0) (h1 : q = 0 ∨ l.getD (q - 1) 0 ≠ 0) : Lib.trimRightB l 0 = l.take q := by
  have e : l = l.take q ++ zer (l.length - q) := by
    apply List.ext_getElem
    · simp [zer_len]; omega
    · intro i hi hi2
      rcases Nat.lt_or_ge i q with h | h
      · rw [List.getElem_append_left (by simp; omega)]
        simp
      · rw [List.getElem_append_right (by simp; omega)]
        have h2 := hz i h hi
        simp only [List.getD, List.getElem?_eq_getElem hi, Option.getD_some] at h2
        rw [h2]
        simp [zer]
  conv => lhs; rw [e]
  apply trim_end
  rcases h1 with h1 | h1
  · left; subst h1; rfl
  · rcases Nat.eq_zero_or_pos q with h0 | h0
    · left; subst h0; rfl
    · right
      have : (l.take q).length = q := by simp; omega
      rw [this]
      have h3 : (l.take q)[q - 1]? = l[q - 1]? := by rw [List.getElem?_take, if_pos (by omega)]
      simp only [List.getD] at h1 ⊢
      rw [h3]
      exact h1
def goodR (bs : List UInt8) (k : Nat) : Prop := 16 + 48 * k + 48 ≤ bs.length ∧ rdOk bs k
open Classical in
noncomputable def rdL (bs : List UInt8) (n : Nat) : List Md := if ∀ k, k < n → goodR bs k then rdMs bs n else []
def RdP (bs : List UInt8) (n : Nat) (W : World) (en : Ending) (W' : World) : Prop := ∃ A c qs, en = .returned (.slice A (rdL bs n).length c) ∧ OwnMs W' W.heap.size A (rdL bs n).length c qs (rdL bs n) ∧ Below W.heap.size W W'
theorem rd_no {bs : List UInt8} {n : Nat} (h : ∃ k, k < n ∧ ¬ goodR bs k) {W W' : World} (hb : Below W.heap.size W W') : RdP bs n W (.returned (.slice none 0 0)) W' := by
  obtain ⟨k, hk, hn⟩ := h
  have e : rdL bs n = [] := by unfold rdL; rw [if_neg (fun h => hn (h k hk))]
  unfold RdP
  rw [e]
  exact ⟨none, 0, [], rfl, OwnMs.nil _ _, hb⟩
theorem ruint (s : Nat) (s0 : 0 < s) (s8 : s ≤ 8) (A : Option Addr) (c : Nat) (bs : List UInt8) (w : World) (hA : IsB w A bs.length bs) (hn : bs.length ≤ 1000000000) {x : Int} {o : Nat} (hx : x = o) (h : o + s ≤ bs.length) : Calls Tryd.prog 39 #[.slice A bs.length c, .int .i64 x, .int .i64 s] w (fun e w' => e = .returned (.tuple #[.int .u64 (leN (seg bs o s) : Nat), .int .i64 0]) ∧ w' = w) := by
  subst hx
  refine (uint_ref A bs.length c bs (o : Int) s w hA hn s0 s8 (by omega) (by omega)).mono ?_
  rintro en w2 ⟨rfl, rfl⟩
  rw [fixR_in h]
  exact ⟨rfl, rfl⟩
theorem ruint4 (A : Option Addr) (c : Nat) (bs : List UInt8) (w : World) (hA : IsB w A bs.length bs) (hn : bs.length ≤ 1000000000) {x : Int} {o : Nat} (hx : x = o) (h : o + 4 ≤ bs.length) : Calls Tryd.prog 39 #[.slice A bs.length c, .int .i64 x, .int .i64 4] w (fun e w' => e = .returned (.tuple #[.int .u64 (leN (seg bs o 4) : Nat), .int .i64 0]) ∧ w' = w) := ruint 4 (by omega) (by omega) A c bs w hA hn hx h
theorem ruint2 (A : Option Addr) (c : Nat) (bs : List UInt8) (w : World) (hA : IsB w A bs.length bs) (hn : bs.length ≤ 1000000000) {x : Int} {o : Nat} (hx : x = o) (h : o + 2 ≤ bs.length) : Calls Tryd.prog 39 #[.slice A bs.length c, .int .i64 x, .int .i64 2] w (fun e w' => e = .returned (.tuple #[.int .u64 (leN (seg bs o 2) : Nat), .int .i64 0]) ∧ w' = w) := ruint 2 (by omega) (by omega) A c bs w hA hn hx h
theorem seg_getD {bs : List UInt8} {o s i : Nat} (h : o + s ≤ bs.length) (hi : i < s) : (seg bs o s).getD i 0 = bs.getD (o + i) 0 := by
  have h1 : i < (seg bs o s).length := by rw [seg_len h]; exact hi
  simp only [List.getD, List.getElem?_eq_getElem h1, Option.getD_some, seg_get h hi, List.getElem?_eq_getElem (show o + i < bs.length by omega)]
theorem step_copy_base {P : Program} {K : Act → World → Prop} {Q : Exit → Act → World → Prop} {a : Act} {w : World} {dst : Option Tmp} {typ : TypeId} {pos : String} {after : Array Edge} {gd : Option (Nat × Bool)} {s x : Operand} {t e : TypeId} {base m c' : Nat} {B : Option Addr} {cs : List UInt8} (ht : P.underlying t = some (.slice e))
    (hinfo : (P.info? e).map (fun i => (i.zero, i.size, i.bytes)) = some (some (.int .u8 0), 1, 1)) (hB : IsB w B m cs) (hlen : m ≤ 140737488355328) (hbase : base ≤ w.heap.size)
    (hs : a.eval s = .slice none 0 0) (hx : a.eval x = .slice B m c')
    (h : ∀ A' c'' w', OwnB w' base e A' m c'' cs → Below w.heap.size w w' → K (a.put dst (.slice A' m c'')) w') :
    Oper.wp P { dst := dst, op := .call { callee := .builtin .append, args := #[s, x], argTypes := #[t, t] }, type := typ, pos := pos, after := after, guard := gd } a w K Q := by
  refine step_append_b (c' := c') ht hinfo (OwnB.nil w base e) hB (by omega) hbase hs hx fun A' c'' w' h1 h2 h3 h4 => ?_
  simp only [Nat.zero_add] at h1 ⊢
  exact h A' c'' w' h1 (below_none h3)
set_option maxRecDepth 100000 in
set_option maxHeartbeats 8000000 in
theorem rread (n : Nat) (A : Option Addr) (c : Nat) (bs : List UInt8) (W : World) (hA : IsB W A bs.length bs) (hc : bs.length ≤ c) (hl : bs.length ≤ 1000000000) (hn : n < 65536) : Calls Tryd.prog 40 #[.slice A bs.length c, .int .i64 n] W (RdP bs n W) := by
  go_enter Tryd.func40, Tryd.ntmps40
  go_upto_region 3 with (fail)
  go_loopw [5, 6] (fun v i wr => ∃ (j : Nat) (A1 : Option Addr) (e1 : Nat) (qs : List Mq), j ≤ n ∧ i = .int .i64 j ∧ v = .slice A1 j e1 ∧ OwnMs wr W.heap.size A1 j e1 qs (rdMs bs j) ∧ Below W.heap.size W wr ∧ ∀ k, k < j → goodR bs k) (fun _ i _ => n - (intOf i).toNat)
  case atStart => exact ⟨0, none, 0, [], by omega, rfl, rfl, OwnMs.nil _ _, Below.refl _ _, fun k hk => by omega⟩
  case round =>
    obtain ⟨j, A1, e1, qs, hj, rfl, rfl, ho, hB, hall⟩ := hrel
    have HAL := Lib.hid hall
    clear hall
    rcases Nat.lt_or_ge j n with hjl | hjl
    · have d1 : decide (j < n) = true := decide_eq_true hjl
      have hji : (j : Int) < n := by omega
      obtain ⟨a, ha⟩ : ∃ a, 16 + 48 * j = a := ⟨_, rfl⟩
      have HA := Lib.hid ha
      have hmul : IntKind.i64.wrap (48 * (j : Int)) = 48 * (j : Int) := by rw [IntKind.wrap_i64]; omega
      have hadd : IntKind.i64.wrap (16 + 48 * (j : Int)) = (a : Int) := by rw [IntKind.wrap_i64]; omega
      have hadd2 : IntKind.i64.wrap ((a : Int) + 48) = (a : Int) + 48 := by rw [IntKind.wrap_i64]; omega
      have ha2 : a ≤ 4000000 := by omega
      clear ha
      by_cases hfit : bs.length < a + 48
      · have HB := Lib.hid (show ∃ k, k < n ∧ ¬ goodR bs k from ⟨j, hjl, fun h => by have h1 := h.1; rw [HA.out] at h1; omega⟩)
        have d2 : decide ((bs.length : Int) < (a : Int) + 48) = true := decide_eq_true (by omega)
        clear hfit
        go_wp2
        go_ret
        exact rd_no HB.out hB
      have d2 : decide ((bs.length : Int) < (a : Int) + 48) = false := decide_eq_false (by omega)
      have hA1 := hA.below hB
      obtain ⟨g, o, rfl, lg, hcel⟩ := hA.at_ (by omega)
      have HCE := Lib.hid (fun (w : World) (hb : Below W.heap.size W w) (i : Nat) (hi : i < bs.length) => (hb.cell (p := ⟨g, o + i, none⟩) lg).trans (hcel i hi))
      clear hcel
      go_upto_block 2 with (fail)
      clear d1 d2 hmul hadd hadd2
      go_cut [8] from 28 to 41 (fun u wx => wx = wr ∧ ∃ q : Nat, q ≤ 24 ∧ u = .int .i64 q ∧ Lib.trimRightB (seg bs a 24) 0 = (seg bs a 24).take q)
      case first =>
        go_wp2_with (fail)
        go_loop [8] (fun v => ∃ q : Nat, q ≤ 24 ∧ v = .int .i64 q ∧ ∀ i, q ≤ i → i < 24 → bs.getD (a + i) 0 = 0) (fun v => (intOf v).toNat)
        case atStart => exact ⟨24, by omega, rfl, fun i h1 h2 => by omega⟩
        case round =>
          obtain ⟨q, hq, rfl, hz⟩ := hrel
          have HZ := Lib.hid hz
          clear hz
          rcases Nat.eq_zero_or_pos q with h0 | h0
          · subst h0
            have HTQ := Lib.hid (show Lib.trimRightB (seg bs a 24) 0 = (seg bs a 24).take 0 from trim_q _ 0 (by omega) (fun i h1 h2 => by rw [seg_len (by omega)] at h2; rw [seg_getD (by omega) h2]; exact HZ.out i h1 h2) (.inl rfl))
            go_wp2
            go_meet
            exact ⟨rfl, 0, by omega, rfl, HTQ.out⟩
          obtain ⟨e, he⟩ : ∃ e, a + q = e + 1 := ⟨a + q - 1, by omega⟩
          have hq0 : decide ((0 : Int) < (q : Int)) = true := decide_eq_true (by omega)
          have hq1 : IntKind.i64.wrap ((a : Int) + (q : Int)) = (e : Int) + 1 := by rw [IntKind.wrap_i64]; omega
          have hq2 : IntKind.i64.wrap ((e : Int) + 1 - 1) = (e : Int) := by rw [IntKind.wrap_i64]; omega
          have hq3 : (e : Int) < bs.length := by omega
          have hq4 : (0 : Int) < (q : Int) := by omega
          have he1 : e < bs.length := by omega
          have hce := HCE.out wr hB e he1
          obtain ⟨y, hy⟩ : ∃ y, bs[e] = y := ⟨_, rfl⟩
          rw [hy] at hce
          have HY := Lib.hid (show bs.getD e 0 = y by rw [← hy]; simp [List.getD, he1])
          clear hy
          by_cases hy0 : y = 0
          · subst hy0
            have hce : wr.cell? ⟨g, o + e, none⟩ = some (.int .u8 0) := hce
            have HZ2 := Lib.hid (show ∀ i, q - 1 ≤ i → i < 24 → bs.getD (a + i) 0 = 0 from fun i h1 h2 => by
              rcases Nat.lt_or_ge i q with h5 | h5
              · rw [show a + i = e by omega]; exact HY.out
              · exact HZ.out i h5 h2)
            have hw9 : IntKind.i64.wrap ((q : Int) - 1) = ((q - 1 : Nat) : Int) := by rw [IntKind.wrap_i64]; omega
            clear he
            go_wp2
            exact ⟨⟨q - 1, by omega, by go_num, HZ2.out⟩, by simp [intOf]; omega⟩
          · have hyn : y.toNat ≠ 0 := fun h => hy0 (UInt8.toNat_inj.1 (by rw [h]; rfl))
            have hye : (y.toNat = 0) = False := eq_false hyn
            have hyb : ((y.toNat : Int) == 0) = false := by simp; omega
            have HTQ := Lib.hid (show Lib.trimRightB (seg bs a 24) 0 = (seg bs a 24).take q from trim_q _ q (by rw [seg_len (by omega)]; exact hq) (fun i h1 h2 => by rw [seg_len (by omega)] at h2; rw [seg_getD (by omega) h2]; exact HZ.out i h1 h2) (.inr (by rw [seg_getD (by omega) (by omega), show a + (q - 1) = e by omega, HY.out]; exact hy0)))
            clear he hy0
            go_wp2
            go_meet
            exact ⟨rfl, q, hq, rfl, HTQ.out⟩
      case rest =>
        obtain ⟨rfl, q, hq, rfl, htq⟩ := hcut
        have HTQ := Lib.hid htq
        clear htq
        have ha28 : IntKind.i64.wrap ((a : Int) + 28) = (a : Int) + 28 := by rw [IntKind.wrap_i64]; omega
        have ha32 : IntKind.i64.wrap ((a : Int) + 32) = (a : Int) + 32 := by rw [IntKind.wrap_i64]; omega
        have ha36 : IntKind.i64.wrap ((a : Int) + 36) = (a : Int) + 36 := by rw [IntKind.wrap_i64]; omega
        have h28 := ruint4 (some ⟨g, o, none⟩) c bs wc hA1 hl (x := (a : Int) + 28) (o := a + 28) (by omega) (by omega)
        have h32 := ruint4 (some ⟨g, o, none⟩) c bs wc hA1 hl (x := (a : Int) + 32) (o := a + 32) (by omega) (by omega)
        have h36 := ruint4 (some ⟨g, o, none⟩) c bs wc hA1 hl (x := (a : Int) + 36) (o := a + 36) (by omega) (by omega)
        have ven := leN4 bs (a + 28)
        have vof := leN4 bs (a + 32)
        have vsz := leN4 bs (a + 36)
        obtain ⟨en, hen⟩ : ∃ en, leN (seg bs (a + 28) 4) = en := ⟨_, rfl⟩
        obtain ⟨of, hof⟩ : ∃ of, leN (seg bs (a + 32) 4) = of := ⟨_, rfl⟩
        obtain ⟨sz, hsz⟩ : ∃ sz, leN (seg bs (a + 36) 4) = sz := ⟨_, rfl⟩
        rw [hen] at h28 ven
        rw [hof] at h32 vof
        rw [hsz] at h36 vsz
        have H28 := Lib.hid h28
        have H32 := Lib.hid h32
        have H36 := Lib.hid h36
        have HEN := Lib.hid (show leN (seg bs (16 + 48 * j + 28) 4) = en by rw [HA.out]; exact hen)
        have HOF := Lib.hid (show offN bs j = of by unfold offN; rw [HA.out]; exact hof)
        have HSZ := Lib.hid (show sizN bs j = sz by unfold sizN; rw [HA.out]; exact hsz)
        clear h28 h32 h36 hen hof hsz
        go_upto_region 14 with (first | (go_at_call 39; with_reducible refine H28.out.mono ?_; rintro en w3 ⟨rfl, hw3⟩; subst hw3) | (go_at_call 39; with_reducible refine H32.out.mono ?_; rintro en w3 ⟨rfl, hw3⟩; subst hw3) | (go_at_call 39; with_reducible refine H36.out.mono ?_; rintro en w3 ⟨rfl, hw3⟩; subst hw3))
        clear H28 H32 H36 ha28 ha32 ha36
        have hwl := wrapU64 (x := bs.length) (by omega)
        by_cases hof1 : bs.length < of
        · have HB := Lib.hid (show ∃ k, k < n ∧ ¬ goodR bs k from ⟨j, hjl, fun h => by have h1 := h.2.1; rw [HOF.out] at h1; omega⟩)
          have d3 : decide (bs.length < of) = true := decide_eq_true hof1
          have d3i : decide ((bs.length : Int) < (of : Int)) = true := decide_eq_true (by omega)
          clear hof1
          go_wp2
          go_ret
          exact rd_no HB.out hB
        have d3 : decide (bs.length < of) = false := decide_eq_false hof1
        have d3i : decide ((bs.length : Int) < (of : Int)) = false := decide_eq_false (by omega)
        have hsub : IntKind.u64.wrap ((bs.length : Int) - (of : Int)) = (bs.length : Int) - (of : Int) := by rw [IntKind.wrap_u64]; omega
        by_cases hsz1 : bs.length - of < sz
        · have HB := Lib.hid (show ∃ k, k < n ∧ ¬ goodR bs k from ⟨j, hjl, fun h => by have h1 := h.2.2; rw [HOF.out, HSZ.out] at h1; omega⟩)
          have d4i : decide ((bs.length : Int) - (of : Int) < (sz : Int)) = true := decide_eq_true (by omega)
          clear hsz1
          go_wp2
          go_ret
          exact rd_no HB.out hB
        have HOK := Lib.hid (show goodR bs j from ⟨by rw [HA.out]; omega, by rw [HOF.out]; omega, by rw [HOF.out, HSZ.out]; omega⟩)
        have d4i : decide ((bs.length : Int) - (of : Int) < (sz : Int)) = false := decide_eq_false (by omega)
        go_upto_region 16 with (fail)
        clear d3 d3i d4i hsub hwl
        have hqs : seg bs a 24 = seg bs a 24 := rfl
        have htk : (seg bs a 24).take q = seg bs a q := by unfold seg; rw [List.take_take, Nat.min_eq_left hq]
        obtain ⟨nm, hnm⟩ : ∃ nm, seg bs a q = nm := ⟨_, rfl⟩
        have HNM := Lib.hid (show Lib.trimRightB (seg bs (16 + 48 * j) 24) 0 = nm by rw [HA.out, HTQ.out, htk, hnm])
        obtain ⟨y24, hy24⟩ : ∃ y, bs[a + 24]'(by omega) = y := ⟨_, rfl⟩
        obtain ⟨y25, hy25⟩ : ∃ y, bs[a + 25]'(by omega) = y := ⟨_, rfl⟩
        have HB24 := Lib.hid (show bs.getD (16 + 48 * j + 24) 0 = y24 by rw [HA.out, ← hy24]; simp [List.getD, show a + 24 < bs.length by omega])
        have HB25 := Lib.hid (show bs.getD (16 + 48 * j + 25) 0 = y25 by rw [HA.out, ← hy25]; simp [List.getD, show a + 25 < bs.length by omega])
        have hl24 := y24.toNat_lt
        have hl25 := y25.toNat_lt
        have hw24 : IntKind.i64.wrap (y24.toNat : Int) = (y24.toNat : Int) := by rw [IntKind.wrap_i64]; omega
        have hw25 : IntKind.i64.wrap (y25.toNat : Int) = (y25.toNat : Int) := by rw [IntKind.wrap_i64]; omega
        have hwen : IntKind.i64.wrap (en : Int) = (en : Int) := by rw [IntKind.wrap_i64]; omega
        obtain ⟨dat, hdat⟩ : ∃ dat, seg bs of sz = dat := ⟨_, rfl⟩
        have hdl : sz = dat.length := by rw [← hdat, seg_len (by omega)]
        have HDA := Lib.hid hdat
        have HK := Lib.hid (fun (w : World) (hw : Below W.heap.size W w) => (⟨by have h := HCE.out w hw (a + 24) (by omega); rw [hy24] at h; exact h, by have h := HCE.out w hw (a + 25) (by omega); rw [hy25] at h; exact h, by
          have h := run_str (P := Tryd.prog) (w := w) (dst := 9) Tryd.underlying23 Tryd.underlying5 Tryd.underlying9 (c - a) ((hA.below hw).part a q (by omega))
          rw [hnm] at h
          exact h⟩ : w.cell? ⟨g, o + (a + 24), none⟩ = some (.int .u8 y24.toNat) ∧ w.cell? ⟨g, o + (a + 25), none⟩ = some (.int .u8 y25.toNat) ∧ (convert 23 9 (.slice (some ⟨g, o + a, none⟩) q (c - a))).run Tryd.prog w = .ok (.string ⟨nm.toArray⟩) w))
        have HI0 := Lib.hid (fun (w : World) (hw : Below W.heap.size W w) => (hA.below hw).part of sz (by omega))
        rw [hdat] at HI0
        subst hdl
        clear hqs htk hnm hy24 hy25 hdat
        have hT1 : ((a : Int) + 24).toNat = a + 24 := by omega
        have hT2 : ((a : Int) + 25).toNat = a + 25 := by omega
        have hT3 : ((a : Int) + (q : Int)).toNat = a + q := by omega
        have hT4 : ((of : Int) + (dat.length : Int)).toNat = of + dat.length := by omega
        have hT5 : a + q - a = q := by omega
        have hT6 : of + dat.length - of = dat.length := by omega
        have hmul : IntKind.i64.wrap ((a : Int) + 24) = (a : Int) + 24 := by rw [IntKind.wrap_i64]; omega
        have hmul2 : IntKind.i64.wrap ((a : Int) + 25) = (a : Int) + 25 := by rw [IntKind.wrap_i64]; omega
        have hmul3 : IntKind.i64.wrap ((a : Int) + (q : Int)) = (a : Int) + (q : Int) := by rw [IntKind.wrap_i64]; omega
        have hmul4 : IntKind.u64.wrap ((of : Int) + (dat.length : Int)) = (of : Int) + (dat.length : Int) := by rw [IntKind.wrap_u64]; omega
        have i0 : (0 : Int) ≤ (a : Int) := by omega
        have i1 : (a : Int) ≤ (a : Int) + (q : Int) := by omega
        have i2 : (a : Int) + (q : Int) ≤ (c : Int) := by omega
        have i3 : (0 : Int) ≤ (a : Int) + 24 := by omega
        have i4 : (a : Int) + 24 < (bs.length : Int) := by omega
        have i5 : (0 : Int) ≤ (a : Int) + 25 := by omega
        have i6 : (a : Int) + 25 < (bs.length : Int) := by omega
        have i7 : (c = a) = False := by simp; omega
        have j0 : (0 : Int) ≤ (of : Int) := by omega
        have j1 : (of : Int) ≤ (of : Int) + (dat.length : Int) := by omega
        have j2 : (of : Int) + (dat.length : Int) ≤ (c : Int) := by omega
        have hBd : Below W.heap.size W w3.drew := hB.drew
        have hod := ho.below (Below.refl w3.heap.size w3).drew
        have HKW := HK.out w3.drew hBd
        clear HCE HTQ hA1 ho
        by_cases hco : c = of
        · obtain rfl : dat = [] := List.eq_nil_of_length_eq_zero (by omega)
          subst hco
          have HID := Lib.hid (fun (w : World) (hw : Below W.heap.size W w) => IsB.nil w (some ⟨g, o, none⟩))
          have hmul5 : IntKind.u64.wrap (c : Int) = (c : Int) := by rw [IntKind.wrap_u64]; omega
          go_region_held3 (fun w' => w'.cell? ⟨g, o + (a + 24), none⟩ = some (.int .u8 y24.toNat) ∧ w'.cell? ⟨g, o + (a + 25), none⟩ = some (.int .u8 y25.toNat) ∧ (convert 23 9 (.slice (some ⟨g, o + a, none⟩) q (c - a))).run Tryd.prog w' = .ok (.string ⟨nm.toArray⟩) w') (first | exact HK.out _ hBd | exact HK.out _ hB8 | exact HK.out _ (hB5.alloc hB5.size _) | exact HK.out _ hB5) (first | (rw [if_pos (by rfl)]; refine step_copy_base (P := Tryd.prog) (base := W.heap.size) (m := 0) (c' := 0) (cs := []) Tryd.underlying23 info_u8 (HID.out _ hBd) (by omega) hBd.size rfl (by first | rfl | (go_simp; done)) ?_; intro A5 c5 w5 ho5 hb5; have hB5 := hBd.trans (hb5.mono hBd.size)) | (rw [if_pos (by rfl)]; have hnw := Row.born w5 35 (mdV ⟨nm, (y24.toNat : Int), (y25.toNat : Int), (en : Int), []⟩ A5 c5).toArray; have hal9 : Below w5.heap.size w5 (w5.alloc (.cells (mdV ⟨nm, (y24.toNat : Int), (y25.toNat : Int), (en : Int), []⟩ A5 c5).toArray 35)) := (Below.refl _ _).alloc (Nat.le_refl _) _; have ho9 := ((hod.below hb5).below hal9).ro; have hs9 := (hB5.alloc hB5.size (.cells (mdV ⟨nm, (y24.toNat : Int), (y25.toNat : Int), (en : Int), []⟩ A5 c5).toArray 35)).size; have hl9 : (j + 1) * 64 ≤ 140737488355328 := (by omega); have hl8 : j + 1 ≤ 140737488355328 := (by omega); refine step_append_v (P := Tryd.prog) (news := mdV ⟨nm, (y24.toNat : Int), (y25.toNat : Int), (en : Int), []⟩ A5 c5) Tryd.underlying25 info_md rfl (by decide) ho9 hnw rfl (mdV_ones _ _ _) hl9 hl8 hs9 rfl rfl ?_; intro A8 c8 w8 h28 h38 h48; have hB8 := (hB5.alloc hB5.size (.cells (mdV ⟨nm, (y24.toNat : Int), (y25.toNat : Int), (en : Int), []⟩ A5 c5).toArray 35)).grown h38 hs9 (fun k hk => (ho9.ge k hk).1)))
          have hal : Below w5.heap.size w5 (w5.alloc (.cells (mdV ⟨nm, (y24.toNat : Int), (y25.toNat : Int), (en : Int), []⟩ A5 c5).toArray 35)) := (Below.refl _ _).alloc (Nat.le_refl _) _
          have ho8 := ((hod.below hb5).below hal).app (m := ⟨nm, (y24.toNat : Int), (y25.toNat : Int), (en : Int), []⟩) (ho5.below hal) h28 h38
          have HT : rdMs bs j ++ [⟨nm, (y24.toNat : Int), (y25.toNat : Int), (en : Int), []⟩] = rdMs bs (j + 1) := by
            rw [rdMs_succ]
            congr 2
            unfold rdM
            rw [HNM.out, HB24.out, HB25.out, HEN.out, HOF.out, HSZ.out, HDA.out]
          rw [HT] at ho8
          have HAL2 := Lib.hid (show ∀ k, k < j + 1 → goodR bs k from fun k hk => by rcases Nat.lt_or_ge k j with h9 | h9; exact HAL.out k h9; obtain rfl : k = j := (by omega); exact HOK.out)
          clear HT h28 h38 h48 hal hod hb5 hnw hal9 ho9 hs9 hl9 hl8
          go_wp2
          exact ⟨⟨j + 1, A8, c8, _, by omega, by go_num, rfl, ho8, hB8, HAL2.out⟩, by simp [intOf]; omega⟩
        have hco2 : (c = of) = False := by simp; exact hco
        have hco3 : (c ≤ of) = False := by simp; omega
        have hco4 : (c - of = 0) = False := by simp; omega
        clear hco
        have HID := HI0
        go_region_held3 (fun w' => w'.cell? ⟨g, o + (a + 24), none⟩ = some (.int .u8 y24.toNat) ∧ w'.cell? ⟨g, o + (a + 25), none⟩ = some (.int .u8 y25.toNat) ∧ (convert 23 9 (.slice (some ⟨g, o + a, none⟩) q (c - a))).run Tryd.prog w' = .ok (.string ⟨nm.toArray⟩) w') (first | exact HK.out _ hBd | exact HK.out _ hB8 | exact HK.out _ (hB5.alloc hB5.size _) | exact HK.out _ hB5) (first | (rw [if_pos (by rfl)]; refine step_copy_base (P := Tryd.prog) (base := W.heap.size) (m := dat.length) (c' := c - of) (cs := dat) Tryd.underlying23 info_u8 (HID.out _ hBd) (by omega) hBd.size rfl (by first | rfl | (go_simp; done)) ?_; intro A5 c5 w5 ho5 hb5; have hB5 := hBd.trans (hb5.mono hBd.size)) | (rw [if_pos (by rfl)]; have hnw := Row.born w5 35 (mdV ⟨nm, (y24.toNat : Int), (y25.toNat : Int), (en : Int), dat⟩ A5 c5).toArray; have hal9 : Below w5.heap.size w5 (w5.alloc (.cells (mdV ⟨nm, (y24.toNat : Int), (y25.toNat : Int), (en : Int), dat⟩ A5 c5).toArray 35)) := (Below.refl _ _).alloc (Nat.le_refl _) _; have ho9 := ((hod.below hb5).below hal9).ro; have hs9 := (hB5.alloc hB5.size (.cells (mdV ⟨nm, (y24.toNat : Int), (y25.toNat : Int), (en : Int), dat⟩ A5 c5).toArray 35)).size; have hl9 : (j + 1) * 64 ≤ 140737488355328 := (by omega); have hl8 : j + 1 ≤ 140737488355328 := (by omega); refine step_append_v (P := Tryd.prog) (news := mdV ⟨nm, (y24.toNat : Int), (y25.toNat : Int), (en : Int), dat⟩ A5 c5) Tryd.underlying25 info_md rfl (by decide) ho9 hnw rfl (mdV_ones _ _ _) hl9 hl8 hs9 rfl rfl ?_; intro A8 c8 w8 h28 h38 h48; have hB8 := (hB5.alloc hB5.size (.cells (mdV ⟨nm, (y24.toNat : Int), (y25.toNat : Int), (en : Int), dat⟩ A5 c5).toArray 35)).grown h38 hs9 (fun k hk => (ho9.ge k hk).1)))
        have hal : Below w5.heap.size w5 (w5.alloc (.cells (mdV ⟨nm, (y24.toNat : Int), (y25.toNat : Int), (en : Int), dat⟩ A5 c5).toArray 35)) := (Below.refl _ _).alloc (Nat.le_refl _) _
        have ho8 := ((hod.below hb5).below hal).app (m := ⟨nm, (y24.toNat : Int), (y25.toNat : Int), (en : Int), dat⟩) (ho5.below hal) h28 h38
        have HT : rdMs bs j ++ [⟨nm, (y24.toNat : Int), (y25.toNat : Int), (en : Int), dat⟩] = rdMs bs (j + 1) := by
          rw [rdMs_succ]
          congr 2
          unfold rdM
          rw [HNM.out, HB24.out, HB25.out, HEN.out, HOF.out, HSZ.out, HDA.out]
        rw [HT] at ho8
        have HAL2 := Lib.hid (show ∀ k, k < j + 1 → goodR bs k from fun k hk => by rcases Nat.lt_or_ge k j with h9 | h9; exact HAL.out k h9; obtain rfl : k = j := (by omega); exact HOK.out)
        clear HT h28 h38 h48 hal hod hb5 hnw hal9 ho9 hs9 hl9 hl8
        go_wp2
        exact ⟨⟨j + 1, A8, c8, _, by omega, by go_num, rfl, ho8, hB8, HAL2.out⟩, by simp [intOf]; omega⟩
    · obtain rfl : j = n := by omega
      have d1 : decide (j < j) = false := by simp
      have e : rdL bs j = rdMs bs j := by unfold rdL; rw [if_pos HAL.out]
      have HR := Lib.hid (show RdP bs j W (.returned (.slice A1 j e1)) wr by
        unfold RdP
        rw [e, rdMs_len]
        exact ⟨A1, e1, qs, rfl, ho, hB⟩)
      clear e
      go_wp2
      go_ret
      exact HR.out
end Go.Proofs.YtigbmlgllgcbhaaDoor
