/- Texts Lr, without what this claim does not use. -/
import Derived.Test.YthjkhambmgepdaaQav
import Derived.Test.YthjkhambmgepdaaQaw
namespace Go.Proofs.Ythjkhambmgepdaa
section
open Go.RowKit
set_option linter.unusedVariables false
def acH (p : List UInt8) : Nat := leN (p.take 4)
def acB (fl : Bool) (len : Int) (p : List UInt8) : List UInt8 := if fl then (p.take len.toNat).drop 4 else p.take len.toNat
def acW (e : LE) (fl : Bool) (p : List UInt8) : Int := if fl then (acH p : Int) else e.want
def acP (e : LE) (fl : Bool) (len : Int) (p : List UInt8) : List UInt8 := e.pt ++ acB fl len p
def acD (e : LE) (el fl : Bool) (len : Int) (p : List UInt8) : Bool := (el == ep e.rn e.rc) && (fl == (e.want == -1)) && decide (0 ≤ len) && decide (len ≤ 56) && (if fl then decide (4 ≤ len) && decide (acH p ≤ 1048576) && (len - 4 == min (acH p : Int) 52) else len == min (e.want - e.pt.length) 56)
def acE (e : LE) (fl : Bool) (len : Int) (p : List UInt8) : Bool := decide (acW e fl p ≤ (acP e fl len p).length)
structure Two (W W' : World) (g : Nat) (k : Option Nat) : Prop where
  os : W'.os = W.os
  tape : W'.tape = W.tape
  output : W'.output = W.output
  size : W.heap.size ≤ W'.heap.size
  block : ∀ x, x < W.heap.size → x ≠ g → k ≠ some x → W'.heap[x]? = W.heap[x]?
  ks : Keeps [5, 155] W W'
def AcNo (W : World) (en : Ending) (W' : World) : Prop := en = .returned (.tuple #[.slice none 0 0, .bool false, .bool false]) ∧ Below W.heap.size W W'
def AcYes (e : LE) (Q : Value) (base g : Nat) (k0 : Option Nat) (fl : Bool) (len : Int) (p : List UInt8) (W : World) (en : Ending) (W' : World) : Prop :=
  ∃ B' d', OwnB W' base 5 B' (acP e fl len p).length d' (acP e fl len p) ∧ Two W W' g k0 ∧
   ((acE e fl len p = false ∧ en = .returned (.tuple #[.slice none 0 0, .bool false, .bool true]) ∧ Row W' g 155 (BW e.n e.s e.a Q e.off e.rn e.rc (acW e fl p) (.slice B' (acP e fl len p).length d') e.told)) ∨
    (acE e fl len p = true ∧ en = .returned (.tuple #[.slice B' (acP e fl len p).length d', .bool true, .bool true]) ∧ Row W' g 155 (BW e.n e.s e.a Q e.off e.rn e.rc (-1) (.slice none 0 0) e.told)))
def AcP (e : LE) (Q : Value) (base g : Nat) (k0 : Option Nat) (el fl : Bool) (len : Int) (p : List UInt8) (W : World) (en : Ending) (W' : World) : Prop :=
  (acD e el fl len p = false ∧ AcNo W en W') ∨ (acD e el fl len p = true ∧ AcYes e Q base g k0 fl len p W en W')
theorem two_of {W w5 w6 w7 : World} {g : Nat} {k : Option Nat} {cs : Array Value} (hb : Below W.heap.size W w5) (hg : w5.grownBy w6 k) (hk : Keeps [5] w5 w6) (u : Upd w6 w7 g) (hr : Row w6 g 155 cs) : Two W w7 g k := by
  have h5 : Keeps [5, 155] w5 w6 := ⟨hk.1, fun g t cs fr hg ht => hk.2 g t cs fr hg (fun h' => ht (by simp at h'; simp [h']))⟩
  refine ⟨u.os.trans (hg.os.trans hb.os), u.tape.trans (hg.tape.trans hb.tape), u.output.trans (hg.output.trans hb.output), ?_, fun x hx hn hn2 => ?_, ((Keeps.below hb).trans h5).trans (Keeps.upd u hr (by simp))⟩
  · rw [u.size]
    exact Nat.le_trans hb.size hg.size
  · exact (u.block x hn).trans ((hg.block x (Nat.lt_of_lt_of_le hx hb.size) (fun e => hn2 e.symm)).trans (hb.block x hx))
theorem u32_ok (A : Option Addr) (n c : Nat) (p : List UInt8) (w : World) (hA : IsB w A n (p.take n)) (hp : n ≤ p.length) (hn : 4 ≤ n) (h9 : n ≤ 1000000000) : Calls Try.prog 140 #[.slice A n c, .int .i64 0] w (fun en w' => en = .returned (.tuple #[.int .u32 (acH p : Nat), .int .i64 0]) ∧ w' = w) := by
  have h := uint32_01 A n c (p.take n) 0 w hA h9 (by omega) (by omega)
  have hf : fixR (p.take n) 0 4 = (acH p, 0) := by
    unfold fixR
    rw [if_neg (by omega), if_neg (by have : (0 : Int).toNat = 0 := rfl; rw [List.length_take]; omega)]
    simp [seg, acH, List.take_take, Nat.min_eq_left hn]
  unfold FixPost at h
  rw [hf] at h
  exact h
theorem OwnB.typedR {w : World} {base : Nat} {e : TypeId} {A : Option Addr} {n c : Nat} {bs : List UInt8} (h : OwnB w base e A n c bs) : ∀ k, (Value.slice A n c).ownBlock = some k → ∃ t cs fr, w.heap[k]? = some (Obj.cells cs t fr) ∧ t ∈ [e] := OwnV.typed (size := 1) h
set_option maxRecDepth 100000 in
set_option maxHeartbeats 8000000 in
theorem acc_f5 (e : LE) (Q : Value) (base g : Nat) (B : Option Addr) (d : Nat) (k : Int) (el : Bool) (b : Nat) (ack : Int) (p : List UInt8) (W : World) (hr : Row W g 155 (BV e Q (.slice B e.pt.length d))) (hoB : OwnB W base 5 B e.pt.length d e.pt) (hl : p.length = 56) (hrn : 2 ≤ e.rn ∧ e.rn ≤ 64) (hrc : 0 ≤ e.rc ∧ e.rc < 18446744073709551616) (hw : -1 ≤ e.want ∧ e.want ≤ 1048576) (hpl : e.pt.length ≤ 1048576) (hbs : base ≤ W.heap.size) (h1 : (el == ep e.rn e.rc) = true) (h2 : e.want = -1) (hp0 : e.pt.length = 0) (hH : acH p ≤ 1048576) (hH2 : 52 < acH p) (hb : b = 52) : Calls Try.prog 108 #[.pointer (some ⟨g, 5, none⟩), .agg (LV k el true ((b : Int) + 4) ack p)] W (AcP e Q base g (Value.slice B e.pt.length d).ownBlock el true ((b : Int) + 4) p W) := by
  have hm : b ≤ 52 := by omega
  have HD := Lib.hid (show acD e el true ((b : Int) + 4) p = true by simp [acD, h1, h2]; omega)
  have HP := Lib.hid (show acP e true ((b : Int) + 4) p = e.pt ++ (p.take (b + 4)).drop 4 by simp [acP, acB]; rfl)
  have HPl := Lib.hid (show (acP e true ((b : Int) + 4) p).length = e.pt.length + b by rw [HP.out]; simp; omega)
  have HW := Lib.hid (show acW e true p = (acH p : Int) from rfl)
  have HE := Lib.hid (show acE e true ((b : Int) + 4) p = false by unfold acE; rw [HPl.out, HW.out]; simp; omega)
  have HZ := Lib.hid hb
  clear hb
  have HZ0 := Lib.hid hp0
  clear hp0
  have hB1 := (Below.refl W.heap.size W).alloc (Nat.le_refl _) (.cells (LV k el true ((b : Int) + 4) ack p) 40)
  have rl := Row.born W 40 (LV k el true ((b : Int) + 4) ack p)
  have hgW := hr.lt
  have hkW : ∀ x, (Value.slice B e.pt.length d).ownBlock = some x → base ≤ x ∧ x < W.heap.size := fun x hx => World.ownsRow.lt hoB x hx
  have hr := hr.below hB1 hr.lt
  have hoB := hoB.below hB1
  go_enter Try.func108, Try.ntmps108
  go_upto_region 1 with (fail)
  generalize W.alloc (.cells (LV k el true ((b : Int) + 4) ack p) 40) = w1 at *
  have hr : Row w1.drew g 155 (BV e Q (.slice B e.pt.length d)) := hr
  have rl : Row w1.drew W.heap.size 40 (LV k el true ((b : Int) + 4) ack p) := rl
  have hB1 : Below W.heap.size W w1.drew := hB1.drew
  have hoB : OwnB w1.drew base 5 B e.pt.length d e.pt := hoB
  obtain ⟨w2, hxw2⟩ : ∃ w2, w1.drew = w2 := ⟨_, rfl⟩
  rw [hxw2] at hr rl hB1 hoB
  obtain ⟨⟨c0, c1', c2, c3, c4⟩, ⟨c5, c6, c7, c8, c9⟩, fz⟩ := bv_cells hr
  obtain ⟨l0, l1, l2, l3, l4⟩ := line_cells rl
  obtain ⟨r0, r1⟩ := hrc
  obtain ⟨n0, n1⟩ := hrn
  have hq : 0 ≤ e.rc / e.rn := Int.ediv_nonneg r0 (by omega)
  have hql : e.rc / e.rn < 18446744073709551616 := Int.lt_of_le_of_lt (Int.ediv_le_self _ r0) r1
  have hw1 : IntKind.u64.wrap e.rn = e.rn := by rw [IntKind.wrap_u64]; omega
  have hquo : e.rc.tdiv e.rn = e.rc / e.rn := Int.tdiv_eq_ediv_of_nonneg r0
  have hw2 : IntKind.u64.wrap (e.rc / e.rn) = e.rc / e.rn := by rw [IntKind.wrap_u64]; omega
  have hne : (e.rn = 0) = False := by simp; omega
  have htm : (e.rc / e.rn).tmod 2 = e.rc / e.rn % 2 := Int.tmod_eq_emod_of_nonneg hq
  have hw3 : IntKind.u64.wrap (e.rc / e.rn % 2) = e.rc / e.rn % 2 := by rw [IntKind.wrap_u64]; omega
  have hep : (e.rc / e.rn % 2 == 0) = ep e.rn e.rc := rfl
  obtain ⟨ev, hev⟩ : ∃ ev, ep e.rn e.rc = ev := ⟨_, rfl⟩
  refine wp_region_told (n := 122) (fun w' => w' = w2) (fun _ _ => True) (by kernel_rfl) (by kernel_rfl) (by rfl) hxw2 ?_
  repeat (first | (refine walk_pure (v := ?_) (fun _ => trivial) (fun _ => rfl) ?_ ?_; rotate_left; (focus (intro us w9 hS9 hF; subst hS9; clear hF; go_simp; (try with_reducible rfl); done)); simp only [Act.put, zA, zB, zC, Nat.reduceAdd]) | (refine walk_skip (fun _ => trivial) (fun _ => rfl) ?_; simp only [Act.put, zA, zB, zC, Nat.reduceAdd]))
  refine walk_done fun us w9 hS9 hF => ?_
  subst hS9
  clear hF
  clear c0 c1' c2 c3 c4 c5 c6 c7 c8 c9 fz l0 l1 l2 l3 l4 hq hql hw1 hquo hw2 hne htm hw3 hxw2
  obtain ⟨fv, hfv⟩ : ∃ fv, (e.want == -1) = fv := ⟨_, rfl⟩
  go_upto_region 2 with (fail)
  have hr : Row w9.drew g 155 (BV e Q (.slice B e.pt.length d)) := hr
  have rl : Row w9.drew W.heap.size 40 (LV k el true ((b : Int) + 4) ack p) := rl
  have hB1 : Below W.heap.size W w9.drew := hB1.drew
  have hoB : OwnB w9.drew base 5 B e.pt.length d e.pt := hoB
  obtain ⟨w4, hxw4⟩ : ∃ w4, w9.drew = w4 := ⟨_, rfl⟩
  rw [hxw4] at hr rl hB1 hoB
  obtain ⟨⟨c0, c1', c2, c3, c4⟩, ⟨c5, c6, c7, c8, c9⟩, fz⟩ := bv_cells hr
  obtain ⟨l0, l1, l2, l3, l4⟩ := line_cells rl
  rw [hev] at h1
  have n1 : (el != ev) = false := by rw [show (el != ev) = !(el == ev) from rfl, h1]; rfl
  obtain rfl : fv = true := by rw [← hfv, h2]; rfl
  have n2 : (true != true) = false := rfl
  have d3 : decide (((b : Int) + 4) < 0) = false := decide_eq_false (by omega)
  have d4 : decide (56 < ((b : Int) + 4)) = false := decide_eq_false (by omega)
  refine wp_region_told (n := 122) (fun w' => w' = w4) (fun _ _ => True) (by kernel_rfl) (by kernel_rfl) (by rfl) hxw4 ?_
  repeat (first | (refine walk_pure (v := ?_) (fun _ => trivial) (fun _ => rfl) ?_ ?_; rotate_left; (focus (intro us w9 hS9 hF; subst hS9; clear hF; go_simp; (try with_reducible rfl); done)); simp only [Act.put, zA, zB, zC, Nat.reduceAdd]) | (refine walk_skip (fun _ => trivial) (fun _ => rfl) ?_; simp only [Act.put, zA, zB, zC, Nat.reduceAdd]))
  refine walk_done fun us w9 hS9 hF => ?_
  subst hS9
  clear hF
  have hi0 : (0 : Int) ≤ ((b : Int) + 4) := by omega
  have hi1 : ((b : Int) + 4) ≤ 56 := by omega
  have hIb : IsB w9 (some ⟨W.heap.size, 5, none⟩) (b + 4) (p.take (b + 4)) := (pay_isB rl hl).pre (b + 4) (by omega)
  have d5 : decide (1048576 < (acH p : Int)) = false := decide_eq_false (by omega)
  go_upto_region 10 with (go_at_call 140; refine (u32_ok _ _ _ p _ hIb (by omega) (by omega) (by omega)).mono ?_; rintro en w8 ⟨rfl, h8⟩; subst h8)
  clear c0 c1' c2 c3 c4 c5 c6 c7 c8 c9 fz l0 l1 l2 l3 l4 hIb
  have hr : Row w8.drew g 155 (BV e Q (.slice B e.pt.length d)) := hr
  have rl : Row w8.drew W.heap.size 40 (LV k el true ((b : Int) + 4) ack p) := rl
  have hB1 : Below W.heap.size W w8.drew := hB1.drew
  have hoB : OwnB w8.drew base 5 B e.pt.length d e.pt := hoB
  obtain ⟨w5, hxw5⟩ : ∃ w5, w8.drew = w5 := ⟨_, rfl⟩
  rw [hxw5] at hr rl hB1 hoB
  obtain ⟨⟨c0, c1', c2, c3, c4⟩, ⟨c5, c6, c7, c8, c9⟩, fz⟩ := bv_cells hr
  obtain ⟨l0, l1, l2, l3, l4⟩ := line_cells rl
  have hw5 : IntKind.i64.wrap (acH p : Int) = (acH p : Int) := by rw [IntKind.wrap_i64]; omega
  have hi4 : (4 : Int) ≤ ((b : Int) + 4) := by omega
  have hi5 : 4 ≤ b + 4 := by omega
  have d6 : decide (52 < (acH p : Int)) = true := by simp; omega
  have d7 : ((b : Int) != 52) = false := by rw [HZ.out]; rfl
  refine wp_region_late (n := 122) [] (fun _ _ w' => w' = w5) (fun _ _ => True) (by kernel_rfl) (by kernel_rfl) (by rfl) (fun _ _ _ _ _ h => h) hxw5 ?_
  iterate 6 (refine late_pure (by simp) (fun _ => trivial) (v := ?_) (fun _ => rfl) ?_ ?_; rotate_left; (focus (intro c9 us w9 hm9 hS9 hF; subst hS9; clear hF hm9; go_simp; (try with_reducible rfl); done)); simp only [Act.put, zA, zB, zC, Nat.reduceAdd])
  refine late_done fun us w9 hS9 hF => ?_
  subst hS9
  clear hF
  have hIb : IsB w9 (some ⟨W.heap.size, 9, none⟩) b ((p.take (b + 4)).drop 4) := by
    have h := ((pay_isB rl hl).pre (b + 4) (by omega)).sufB 4 (by omega)
    simpa using h
  have dc : decide ((e.pt.length : Int) + (b : Int) < (acH p : Int)) = true := by have := HZ.out; have := HZ0.out; simp; omega
  have hoB9 := hoB
  go_upto_region 16 with (at_builtin; (refine wp_append_b (P := Try.prog) rfl _ _ 44 rfl Try.underlying44 info_b hoB hIb (by omega) (by have := hB1.size; omega) rfl rfl ?_); intro B' n' d' w6 hn6 ho6 hb6 hg6 hat6; have hq6 := hn6.out; subst hq6; have hk6 := Keeps.grown hg6 hoB.typedR; have hr6 := hk6.row hr (by decide); obtain ⟨⟨-, -, -, -, -⟩, ⟨-, -, c7', c8', -⟩, fz'⟩ := bv_cells hr6)
  have u7 := (Upd.setCell w6 g 7 (.int .i64 (acH p : Int))).trans (Upd.setCell _ g 8 (.slice B' (e.pt.length + b) d'))
  have hr7 := (hr6.set 7 (.int .i64 (acH p : Int))).set 8 (.slice B' (e.pt.length + b) d')
  have ho7 := ho6.keeps (Keeps.upd u7 hr6 (by simp : 155 ∈ [155])) (by decide)
  generalize (w6.setCell ⟨g, 7, none⟩ (.int .i64 (acH p : Int))).setCell ⟨g, 8, none⟩ (.slice B' (e.pt.length + b) d') = w7 at *
  have hr7 : Row w7 g 155 (BW e.n e.s e.a Q e.off e.rn e.rc (acH p : Int) (.slice B' (e.pt.length + b) d') e.told) := hr7
  clear c0 c1' c2 c3 c4 c5 c6 c7 c8 c9 fz l0 l1 l2 l3 l4 c7' c8' fz'
  obtain ⟨⟨c0, c1', c2, c3, c4⟩, ⟨c5, c6, c7, c8, c9⟩, fz⟩ := bw_cells hr7
  go_wp2
  refine bodyPost_ret (v := .tuple #[.slice none 0 0, .bool false, .bool true]) (by simp [results, Try.results108, go_sem]) rfl ?_
  refine .inr ⟨HD.out, B', d', ?_, two_of hB1 hg6 hk6 u7 hr6, .inl ⟨HE.out, rfl, ?_⟩⟩
  · rw [HPl.out, HP.out]; exact ho7
  · rw [HPl.out, HW.out]; exact hr7
set_option maxRecDepth 100000 in
set_option maxHeartbeats 8000000 in
theorem acc_f6 (e : LE) (Q : Value) (base g : Nat) (B : Option Addr) (d : Nat) (k : Int) (el : Bool) (b : Nat) (ack : Int) (p : List UInt8) (W : World) (hr : Row W g 155 (BV e Q (.slice B e.pt.length d))) (hoB : OwnB W base 5 B e.pt.length d e.pt) (hl : p.length = 56) (hrn : 2 ≤ e.rn ∧ e.rn ≤ 64) (hrc : 0 ≤ e.rc ∧ e.rc < 18446744073709551616) (hw : -1 ≤ e.want ∧ e.want ≤ 1048576) (hpl : e.pt.length ≤ 1048576) (hbs : base ≤ W.heap.size) (h1 : (el == ep e.rn e.rc) = true) (h2 : e.want = -1) (hH2 : acH p ≤ 52) (hb : b = acH p) : Calls Try.prog 108 #[.pointer (some ⟨g, 5, none⟩), .agg (LV k el true ((b : Int) + 4) ack p)] W (AcP e Q base g (Value.slice B e.pt.length d).ownBlock el true ((b : Int) + 4) p W) := by
  have hm : b ≤ 52 := by omega
  have HD := Lib.hid (show acD e el true ((b : Int) + 4) p = true by simp [acD, h1, h2]; omega)
  have HP := Lib.hid (show acP e true ((b : Int) + 4) p = e.pt ++ (p.take (b + 4)).drop 4 by simp [acP, acB]; rfl)
  have HPl := Lib.hid (show (acP e true ((b : Int) + 4) p).length = e.pt.length + b by rw [HP.out]; simp; omega)
  have HW := Lib.hid (show acW e true p = (acH p : Int) from rfl)
  have HE := Lib.hid (show acE e true ((b : Int) + 4) p = true by unfold acE; rw [HPl.out, HW.out]; simp; omega)
  have HZ := Lib.hid hb
  clear hb
  have hB1 := (Below.refl W.heap.size W).alloc (Nat.le_refl _) (.cells (LV k el true ((b : Int) + 4) ack p) 40)
  have rl := Row.born W 40 (LV k el true ((b : Int) + 4) ack p)
  have hgW := hr.lt
  have hkW : ∀ x, (Value.slice B e.pt.length d).ownBlock = some x → base ≤ x ∧ x < W.heap.size := fun x hx => World.ownsRow.lt hoB x hx
  have hr := hr.below hB1 hr.lt
  have hoB := hoB.below hB1
  go_enter Try.func108, Try.ntmps108
  go_upto_region 1 with (fail)
  generalize W.alloc (.cells (LV k el true ((b : Int) + 4) ack p) 40) = w1 at *
  have hr : Row w1.drew g 155 (BV e Q (.slice B e.pt.length d)) := hr
  have rl : Row w1.drew W.heap.size 40 (LV k el true ((b : Int) + 4) ack p) := rl
  have hB1 : Below W.heap.size W w1.drew := hB1.drew
  have hoB : OwnB w1.drew base 5 B e.pt.length d e.pt := hoB
  obtain ⟨w2, hxw2⟩ : ∃ w2, w1.drew = w2 := ⟨_, rfl⟩
  rw [hxw2] at hr rl hB1 hoB
  obtain ⟨⟨c0, c1', c2, c3, c4⟩, ⟨c5, c6, c7, c8, c9⟩, fz⟩ := bv_cells hr
  obtain ⟨l0, l1, l2, l3, l4⟩ := line_cells rl
  obtain ⟨r0, r1⟩ := hrc
  obtain ⟨n0, n1⟩ := hrn
  have hq : 0 ≤ e.rc / e.rn := Int.ediv_nonneg r0 (by omega)
  have hql : e.rc / e.rn < 18446744073709551616 := Int.lt_of_le_of_lt (Int.ediv_le_self _ r0) r1
  have hw1 : IntKind.u64.wrap e.rn = e.rn := by rw [IntKind.wrap_u64]; omega
  have hquo : e.rc.tdiv e.rn = e.rc / e.rn := Int.tdiv_eq_ediv_of_nonneg r0
  have hw2 : IntKind.u64.wrap (e.rc / e.rn) = e.rc / e.rn := by rw [IntKind.wrap_u64]; omega
  have hne : (e.rn = 0) = False := by simp; omega
  have htm : (e.rc / e.rn).tmod 2 = e.rc / e.rn % 2 := Int.tmod_eq_emod_of_nonneg hq
  have hw3 : IntKind.u64.wrap (e.rc / e.rn % 2) = e.rc / e.rn % 2 := by rw [IntKind.wrap_u64]; omega
  have hep : (e.rc / e.rn % 2 == 0) = ep e.rn e.rc := rfl
  obtain ⟨ev, hev⟩ : ∃ ev, ep e.rn e.rc = ev := ⟨_, rfl⟩
  refine wp_region_told (n := 122) (fun w' => w' = w2) (fun _ _ => True) (by kernel_rfl) (by kernel_rfl) (by rfl) hxw2 ?_
  repeat (first | (refine walk_pure (v := ?_) (fun _ => trivial) (fun _ => rfl) ?_ ?_; rotate_left; (focus (intro us w9 hS9 hF; subst hS9; clear hF; go_simp; (try with_reducible rfl); done)); simp only [Act.put, zA, zB, zC, Nat.reduceAdd]) | (refine walk_skip (fun _ => trivial) (fun _ => rfl) ?_; simp only [Act.put, zA, zB, zC, Nat.reduceAdd]))
  refine walk_done fun us w9 hS9 hF => ?_
  subst hS9
  clear hF
  clear c0 c1' c2 c3 c4 c5 c6 c7 c8 c9 fz l0 l1 l2 l3 l4 hq hql hw1 hquo hw2 hne htm hw3 hxw2
  obtain ⟨fv, hfv⟩ : ∃ fv, (e.want == -1) = fv := ⟨_, rfl⟩
  go_upto_region 2 with (fail)
  have hr : Row w9.drew g 155 (BV e Q (.slice B e.pt.length d)) := hr
  have rl : Row w9.drew W.heap.size 40 (LV k el true ((b : Int) + 4) ack p) := rl
  have hB1 : Below W.heap.size W w9.drew := hB1.drew
  have hoB : OwnB w9.drew base 5 B e.pt.length d e.pt := hoB
  obtain ⟨w4, hxw4⟩ : ∃ w4, w9.drew = w4 := ⟨_, rfl⟩
  rw [hxw4] at hr rl hB1 hoB
  obtain ⟨⟨c0, c1', c2, c3, c4⟩, ⟨c5, c6, c7, c8, c9⟩, fz⟩ := bv_cells hr
  obtain ⟨l0, l1, l2, l3, l4⟩ := line_cells rl
  rw [hev] at h1
  have n1 : (el != ev) = false := by rw [show (el != ev) = !(el == ev) from rfl, h1]; rfl
  obtain rfl : fv = true := by rw [← hfv, h2]; rfl
  have n2 : (true != true) = false := rfl
  have d3 : decide (((b : Int) + 4) < 0) = false := decide_eq_false (by omega)
  have d4 : decide (56 < ((b : Int) + 4)) = false := decide_eq_false (by omega)
  refine wp_region_told (n := 122) (fun w' => w' = w4) (fun _ _ => True) (by kernel_rfl) (by kernel_rfl) (by rfl) hxw4 ?_
  repeat (first | (refine walk_pure (v := ?_) (fun _ => trivial) (fun _ => rfl) ?_ ?_; rotate_left; (focus (intro us w9 hS9 hF; subst hS9; clear hF; go_simp; (try with_reducible rfl); done)); simp only [Act.put, zA, zB, zC, Nat.reduceAdd]) | (refine walk_skip (fun _ => trivial) (fun _ => rfl) ?_; simp only [Act.put, zA, zB, zC, Nat.reduceAdd]))
  refine walk_done fun us w9 hS9 hF => ?_
  subst hS9
  clear hF
  have hi0 : (0 : Int) ≤ ((b : Int) + 4) := by omega
  have hi1 : ((b : Int) + 4) ≤ 56 := by omega
  have hIb : IsB w9 (some ⟨W.heap.size, 5, none⟩) (b + 4) (p.take (b + 4)) := (pay_isB rl hl).pre (b + 4) (by omega)
  have d5 : decide (1048576 < (acH p : Int)) = false := decide_eq_false (by omega)
  go_upto_region 10 with (go_at_call 140; refine (u32_ok _ _ _ p _ hIb (by omega) (by omega) (by omega)).mono ?_; rintro en w8 ⟨rfl, h8⟩; subst h8)
  clear c0 c1' c2 c3 c4 c5 c6 c7 c8 c9 fz l0 l1 l2 l3 l4 hIb
  have hr : Row w8.drew g 155 (BV e Q (.slice B e.pt.length d)) := hr
  have rl : Row w8.drew W.heap.size 40 (LV k el true ((b : Int) + 4) ack p) := rl
  have hB1 : Below W.heap.size W w8.drew := hB1.drew
  have hoB : OwnB w8.drew base 5 B e.pt.length d e.pt := hoB
  obtain ⟨w5, hxw5⟩ : ∃ w5, w8.drew = w5 := ⟨_, rfl⟩
  rw [hxw5] at hr rl hB1 hoB
  obtain ⟨⟨c0, c1', c2, c3, c4⟩, ⟨c5, c6, c7, c8, c9⟩, fz⟩ := bv_cells hr
  obtain ⟨l0, l1, l2, l3, l4⟩ := line_cells rl
  have hw5 : IntKind.i64.wrap (acH p : Int) = (acH p : Int) := by rw [IntKind.wrap_i64]; omega
  have hi4 : (4 : Int) ≤ ((b : Int) + 4) := by omega
  have hi5 : 4 ≤ b + 4 := by omega
  have d6 : decide (52 < (acH p : Int)) = false := by simp; omega
  have d7 : ((b : Int) != (acH p : Int)) = false := by rw [HZ.out]; simp
  refine wp_region_late (n := 122) [] (fun _ _ w' => w' = w5) (fun _ _ => True) (by kernel_rfl) (by kernel_rfl) (by rfl) (fun _ _ _ _ _ h => h) hxw5 ?_
  iterate 6 (refine late_pure (by simp) (fun _ => trivial) (v := ?_) (fun _ => rfl) ?_ ?_; rotate_left; (focus (intro c9 us w9 hm9 hS9 hF; subst hS9; clear hF hm9; go_simp; (try with_reducible rfl); done)); simp only [Act.put, zA, zB, zC, Nat.reduceAdd])
  refine late_done fun us w9 hS9 hF => ?_
  subst hS9
  clear hF
  have hIb : IsB w9 (some ⟨W.heap.size, 9, none⟩) b ((p.take (b + 4)).drop 4) := by
    have h := ((pay_isB rl hl).pre (b + 4) (by omega)).sufB 4 (by omega)
    simpa using h
  have dc : decide ((e.pt.length : Int) + (b : Int) < (acH p : Int)) = false := by have := HZ.out; simp; omega
  have hoB9 := hoB
  go_upto_region 16 with (at_builtin; (refine wp_append_b (P := Try.prog) rfl _ _ 44 rfl Try.underlying44 info_b hoB hIb (by omega) (by have := hB1.size; omega) rfl rfl ?_); intro B' n' d' w6 hn6 ho6 hb6 hg6 hat6; have hq6 := hn6.out; subst hq6; have hk6 := Keeps.grown hg6 hoB.typedR; have hr6 := hk6.row hr (by decide); obtain ⟨⟨-, -, -, -, -⟩, ⟨-, -, c7', c8', -⟩, fz'⟩ := bv_cells hr6)
  have u7 := (Upd.setCell w6 g 7 (.int .i64 (acH p : Int))).trans (Upd.setCell _ g 8 (.slice B' (e.pt.length + b) d'))
  have hr7 := (hr6.set 7 (.int .i64 (acH p : Int))).set 8 (.slice B' (e.pt.length + b) d')
  have ho7 := ho6.keeps (Keeps.upd u7 hr6 (by simp : 155 ∈ [155])) (by decide)
  generalize (w6.setCell ⟨g, 7, none⟩ (.int .i64 (acH p : Int))).setCell ⟨g, 8, none⟩ (.slice B' (e.pt.length + b) d') = w7 at *
  have hr7 : Row w7 g 155 (BW e.n e.s e.a Q e.off e.rn e.rc (acH p : Int) (.slice B' (e.pt.length + b) d') e.told) := hr7
  clear c0 c1' c2 c3 c4 c5 c6 c7 c8 c9 fz l0 l1 l2 l3 l4 c7' c8' fz'
  obtain ⟨⟨c0, c1', c2, c3, c4⟩, ⟨c5, c6, c7, c8, c9⟩, fz⟩ := bw_cells hr7
  go_wp2
  refine bodyPost_ret (v := .tuple #[.slice B' (e.pt.length + b) d', .bool true, .bool true]) (by simp [results, Try.results108, go_sem]) rfl ?_
  have u8 := (Upd.setCell w7 g 7 (.int .i64 (-1))).trans (Upd.setCell _ g 8 (.slice none 0 0))
  have hr8 := (hr7.set 7 (.int .i64 (-1))).set 8 (.slice none 0 0)
  have ho8 := ho7.keeps (Keeps.upd u8 hr7 (by simp : 155 ∈ [155])) (by decide)
  refine .inr ⟨HD.out, B', d', ?_, two_of hB1 hg6 hk6 (u7.trans u8) hr6, .inr ⟨HE.out, ?_, ?_⟩⟩
  · rw [HPl.out, HP.out]; exact ho8
  · rw [HPl.out]
  · exact hr8
set_option maxRecDepth 100000 in
set_option maxHeartbeats 8000000 in
theorem acc_g3 (e : LE) (Q : Value) (base g : Nat) (B : Option Addr) (d : Nat) (k : Int) (el : Bool) (m : Nat) (ack : Int) (p : List UInt8) (W : World) (hr : Row W g 155 (BV e Q (.slice B e.pt.length d))) (hoB : OwnB W base 5 B e.pt.length d e.pt) (hl : p.length = 56) (hrn : 2 ≤ e.rn ∧ e.rn ≤ 64) (hrc : 0 ≤ e.rc ∧ e.rc < 18446744073709551616) (hw : -1 ≤ e.want ∧ e.want ≤ 1048576) (hpl : e.pt.length ≤ 1048576) (hbs : base ≤ W.heap.size) (h1 : (el == ep e.rn e.rc) = true) (h2 : (e.want == -1) = false) (hm : m ≤ 56) (hR : 56 < e.want - e.pt.length) (hb : m = 56) : Calls Try.prog 108 #[.pointer (some ⟨g, 5, none⟩), .agg (LV k el false (m : Int) ack p)] W (AcP e Q base g (Value.slice B e.pt.length d).ownBlock el false (m : Int) p W) := by
  have HD := Lib.hid (show acD e el false (m : Int) p = true by unfold acD; rw [h1, h2, if_neg (by simp), show ((m : Int) == min (e.want - e.pt.length) 56) = true from by rw [beq_iff_eq]; omega]; simp; omega)
  have HP := Lib.hid (show acP e false (m : Int) p = e.pt ++ p.take m by simp [acP, acB])
  have HPl := Lib.hid (show (acP e false (m : Int) p).length = e.pt.length + m by rw [HP.out]; simp; omega)
  have HW := Lib.hid (show acW e false p = e.want from rfl)
  have HE := Lib.hid (show acE e false (m : Int) p = false by unfold acE; rw [HPl.out, HW.out]; simp; omega)
  have HZ := Lib.hid hb
  clear hb
  have hB1 := (Below.refl W.heap.size W).alloc (Nat.le_refl _) (.cells (LV k el false (m : Int) ack p) 40)
  have rl := Row.born W 40 (LV k el false (m : Int) ack p)
  have hgW := hr.lt
  have hkW : ∀ x, (Value.slice B e.pt.length d).ownBlock = some x → base ≤ x ∧ x < W.heap.size := fun x hx => World.ownsRow.lt hoB x hx
  have hr := hr.below hB1 hr.lt
  have hoB := hoB.below hB1
  go_enter Try.func108, Try.ntmps108
  go_upto_region 1 with (fail)
  generalize W.alloc (.cells (LV k el false (m : Int) ack p) 40) = w1 at *
  have hr : Row w1.drew g 155 (BV e Q (.slice B e.pt.length d)) := hr
  have rl : Row w1.drew W.heap.size 40 (LV k el false (m : Int) ack p) := rl
  have hB1 : Below W.heap.size W w1.drew := hB1.drew
  have hoB : OwnB w1.drew base 5 B e.pt.length d e.pt := hoB
  obtain ⟨w2, hxw2⟩ : ∃ w2, w1.drew = w2 := ⟨_, rfl⟩
  rw [hxw2] at hr rl hB1 hoB
  obtain ⟨⟨c0, c1', c2, c3, c4⟩, ⟨c5, c6, c7, c8, c9⟩, fz⟩ := bv_cells hr
  obtain ⟨l0, l1, l2, l3, l4⟩ := line_cells rl
  obtain ⟨r0, r1⟩ := hrc
  obtain ⟨n0, n1⟩ := hrn
  have hq : 0 ≤ e.rc / e.rn := Int.ediv_nonneg r0 (by omega)
  have hql : e.rc / e.rn < 18446744073709551616 := Int.lt_of_le_of_lt (Int.ediv_le_self _ r0) r1
  have hw1 : IntKind.u64.wrap e.rn = e.rn := by rw [IntKind.wrap_u64]; omega
  have hquo : e.rc.tdiv e.rn = e.rc / e.rn := Int.tdiv_eq_ediv_of_nonneg r0
  have hw2 : IntKind.u64.wrap (e.rc / e.rn) = e.rc / e.rn := by rw [IntKind.wrap_u64]; omega
  have hne : (e.rn = 0) = False := by simp; omega
  have htm : (e.rc / e.rn).tmod 2 = e.rc / e.rn % 2 := Int.tmod_eq_emod_of_nonneg hq
  have hw3 : IntKind.u64.wrap (e.rc / e.rn % 2) = e.rc / e.rn % 2 := by rw [IntKind.wrap_u64]; omega
  have hep : (e.rc / e.rn % 2 == 0) = ep e.rn e.rc := rfl
  obtain ⟨ev, hev⟩ : ∃ ev, ep e.rn e.rc = ev := ⟨_, rfl⟩
  refine wp_region_told (n := 122) (fun w' => w' = w2) (fun _ _ => True) (by kernel_rfl) (by kernel_rfl) (by rfl) hxw2 ?_
  repeat (first | (refine walk_pure (v := ?_) (fun _ => trivial) (fun _ => rfl) ?_ ?_; rotate_left; (focus (intro us w9 hS9 hF; subst hS9; clear hF; go_simp; (try with_reducible rfl); done)); simp only [Act.put, zA, zB, zC, Nat.reduceAdd]) | (refine walk_skip (fun _ => trivial) (fun _ => rfl) ?_; simp only [Act.put, zA, zB, zC, Nat.reduceAdd]))
  refine walk_done fun us w9 hS9 hF => ?_
  subst hS9
  clear hF
  clear c0 c1' c2 c3 c4 c5 c6 c7 c8 c9 fz l0 l1 l2 l3 l4 hq hql hw1 hquo hw2 hne htm hw3 hxw2
  obtain ⟨fv, hfv⟩ : ∃ fv, (e.want == -1) = fv := ⟨_, rfl⟩
  go_upto_region 2 with (fail)
  have hr : Row w9.drew g 155 (BV e Q (.slice B e.pt.length d)) := hr
  have rl : Row w9.drew W.heap.size 40 (LV k el false (m : Int) ack p) := rl
  have hB1 : Below W.heap.size W w9.drew := hB1.drew
  have hoB : OwnB w9.drew base 5 B e.pt.length d e.pt := hoB
  obtain ⟨w4, hxw4⟩ : ∃ w4, w9.drew = w4 := ⟨_, rfl⟩
  rw [hxw4] at hr rl hB1 hoB
  obtain ⟨⟨c0, c1', c2, c3, c4⟩, ⟨c5, c6, c7, c8, c9⟩, fz⟩ := bv_cells hr
  obtain ⟨l0, l1, l2, l3, l4⟩ := line_cells rl
  rw [hev] at h1
  have n1 : (el != ev) = false := by rw [show (el != ev) = !(el == ev) from rfl, h1]; rfl
  obtain rfl : fv = false := by rw [← hfv, h2]
  have n2 : (false != false) = false := rfl
  have d3 : decide ((m : Int) < 0) = false := decide_eq_false (by omega)
  have d4 : decide (56 < (m : Int)) = false := decide_eq_false (by omega)
  refine wp_region_told (n := 122) (fun w' => w' = w4) (fun _ _ => True) (by kernel_rfl) (by kernel_rfl) (by rfl) hxw4 ?_
  repeat (first | (refine walk_pure (v := ?_) (fun _ => trivial) (fun _ => rfl) ?_ ?_; rotate_left; (focus (intro us w9 hS9 hF; subst hS9; clear hF; go_simp; (try with_reducible rfl); done)); simp only [Act.put, zA, zB, zC, Nat.reduceAdd]) | (refine walk_skip (fun _ => trivial) (fun _ => rfl) ?_; simp only [Act.put, zA, zB, zC, Nat.reduceAdd]))
  refine walk_done fun us w9 hS9 hF => ?_
  subst hS9
  clear hF
  have hi0 : (0 : Int) ≤ (m : Int) := by omega
  have hi1 : (m : Int) ≤ 56 := by omega
  go_upto_region 13 with (fail)
  clear c0 c1' c2 c3 c4 c5 c6 c7 c8 c9 fz l0 l1 l2 l3 l4
  have hr : Row w9.drew g 155 (BV e Q (.slice B e.pt.length d)) := hr
  have rl : Row w9.drew W.heap.size 40 (LV k el false (m : Int) ack p) := rl
  have hB1 : Below W.heap.size W w9.drew := hB1.drew
  have hoB : OwnB w9.drew base 5 B e.pt.length d e.pt := hoB
  obtain ⟨w5, hxw5⟩ : ∃ w5, w9.drew = w5 := ⟨_, rfl⟩
  rw [hxw5] at hr rl hB1 hoB
  obtain ⟨⟨c0, c1', c2, c3, c4⟩, ⟨c5, c6, c7, c8, c9⟩, fz⟩ := bv_cells hr
  obtain ⟨l0, l1, l2, l3, l4⟩ := line_cells rl
  have hsub : IntKind.i64.wrap (e.want - e.pt.length) = e.want - e.pt.length := by rw [IntKind.wrap_i64]; omega
  have d6 : decide (56 < e.want - e.pt.length) = true := by simp; omega
  have d7 : ((m : Int) != 56) = false := by rw [HZ.out]; rfl
  refine wp_region_told (n := 122) (fun w' => w' = w5) (fun _ _ => True) (by kernel_rfl) (by kernel_rfl) (by rfl) hxw5 ?_
  repeat (first | (refine walk_pure (v := ?_) (fun _ => trivial) (fun _ => rfl) ?_ ?_; rotate_left; (focus (intro us w9 hS9 hF; subst hS9; clear hF; go_simp; (try with_reducible rfl); done)); simp only [Act.put, zA, zB, zC, Nat.reduceAdd]) | (refine walk_skip (fun _ => trivial) (fun _ => rfl) ?_; simp only [Act.put, zA, zB, zC, Nat.reduceAdd]))
  refine walk_done fun us w9 hS9 hF => ?_
  subst hS9
  clear hF
  have hIb : IsB w9 (some ⟨W.heap.size, 5, none⟩) m (p.take m) := (pay_isB rl hl).pre m (by omega)
  have dc : decide ((e.pt.length : Int) + (m : Int) < e.want) = true := by have := HZ.out; simp; omega
  have hoB9 := hoB
  go_upto_region 16 with (at_builtin; (refine wp_append_b (P := Try.prog) rfl _ _ 44 rfl Try.underlying44 info_b hoB hIb (by omega) (by have := hB1.size; omega) rfl rfl ?_); intro B' n' d' w6 hn6 ho6 hb6 hg6 hat6; have hq6 := hn6.out; subst hq6; have hk6 := Keeps.grown hg6 hoB.typedR; have hr6 := hk6.row hr (by decide); obtain ⟨⟨-, -, -, -, -⟩, ⟨-, -, c7', c8', -⟩, fz'⟩ := bv_cells hr6)
  have u7 := (Upd.setCell w6 g 7 (.int .i64 e.want)).trans (Upd.setCell _ g 8 (.slice B' (e.pt.length + m) d'))
  have hr7 := (hr6.set 7 (.int .i64 e.want)).set 8 (.slice B' (e.pt.length + m) d')
  have ho7 := ho6.keeps (Keeps.upd u7 hr6 (by simp : 155 ∈ [155])) (by decide)
  generalize (w6.setCell ⟨g, 7, none⟩ (.int .i64 e.want)).setCell ⟨g, 8, none⟩ (.slice B' (e.pt.length + m) d') = w7 at *
  have hr7 : Row w7 g 155 (BW e.n e.s e.a Q e.off e.rn e.rc e.want (.slice B' (e.pt.length + m) d') e.told) := hr7
  clear c0 c1' c2 c3 c4 c5 c6 c7 c8 c9 fz l0 l1 l2 l3 l4 c7' c8' fz'
  obtain ⟨⟨c0, c1', c2, c3, c4⟩, ⟨c5, c6, c7, c8, c9⟩, fz⟩ := bw_cells hr7
  go_wp2
  refine bodyPost_ret (v := .tuple #[.slice none 0 0, .bool false, .bool true]) (by simp [results, Try.results108, go_sem]) rfl ?_
  refine .inr ⟨HD.out, B', d', ?_, two_of hB1 hg6 hk6 u7 hr6, .inl ⟨HE.out, rfl, ?_⟩⟩
  · rw [HPl.out, HP.out]; exact ho7
  · rw [HPl.out, HW.out]; exact hr7
set_option maxRecDepth 100000 in
set_option maxHeartbeats 8000000 in
theorem acc_g4 (e : LE) (Q : Value) (base g : Nat) (B : Option Addr) (d : Nat) (k : Int) (el : Bool) (m : Nat) (ack : Int) (p : List UInt8) (W : World) (hr : Row W g 155 (BV e Q (.slice B e.pt.length d))) (hoB : OwnB W base 5 B e.pt.length d e.pt) (hl : p.length = 56) (hrn : 2 ≤ e.rn ∧ e.rn ≤ 64) (hrc : 0 ≤ e.rc ∧ e.rc < 18446744073709551616) (hw : -1 ≤ e.want ∧ e.want ≤ 1048576) (hpl : e.pt.length ≤ 1048576) (hbs : base ≤ W.heap.size) (h1 : (el == ep e.rn e.rc) = true) (h2 : (e.want == -1) = false) (hm : m ≤ 56) (hR : e.want - e.pt.length ≤ 56) (hb : (m : Int) = e.want - e.pt.length) : Calls Try.prog 108 #[.pointer (some ⟨g, 5, none⟩), .agg (LV k el false (m : Int) ack p)] W (AcP e Q base g (Value.slice B e.pt.length d).ownBlock el false (m : Int) p W) := by
  have HD := Lib.hid (show acD e el false (m : Int) p = true by unfold acD; rw [h1, h2, if_neg (by simp), show ((m : Int) == min (e.want - e.pt.length) 56) = true from by rw [beq_iff_eq]; omega]; simp; omega)
  have HP := Lib.hid (show acP e false (m : Int) p = e.pt ++ p.take m by simp [acP, acB])
  have HPl := Lib.hid (show (acP e false (m : Int) p).length = e.pt.length + m by rw [HP.out]; simp; omega)
  have HW := Lib.hid (show acW e false p = e.want from rfl)
  have HE := Lib.hid (show acE e false (m : Int) p = true by unfold acE; rw [HPl.out, HW.out]; simp; omega)
  have HZ := Lib.hid hb
  clear hb
  have hB1 := (Below.refl W.heap.size W).alloc (Nat.le_refl _) (.cells (LV k el false (m : Int) ack p) 40)
  have rl := Row.born W 40 (LV k el false (m : Int) ack p)
  have hgW := hr.lt
  have hkW : ∀ x, (Value.slice B e.pt.length d).ownBlock = some x → base ≤ x ∧ x < W.heap.size := fun x hx => World.ownsRow.lt hoB x hx
  have hr := hr.below hB1 hr.lt
  have hoB := hoB.below hB1
  go_enter Try.func108, Try.ntmps108
  go_upto_region 1 with (fail)
  generalize W.alloc (.cells (LV k el false (m : Int) ack p) 40) = w1 at *
  have hr : Row w1.drew g 155 (BV e Q (.slice B e.pt.length d)) := hr
  have rl : Row w1.drew W.heap.size 40 (LV k el false (m : Int) ack p) := rl
  have hB1 : Below W.heap.size W w1.drew := hB1.drew
  have hoB : OwnB w1.drew base 5 B e.pt.length d e.pt := hoB
  obtain ⟨w2, hxw2⟩ : ∃ w2, w1.drew = w2 := ⟨_, rfl⟩
  rw [hxw2] at hr rl hB1 hoB
  obtain ⟨⟨c0, c1', c2, c3, c4⟩, ⟨c5, c6, c7, c8, c9⟩, fz⟩ := bv_cells hr
  obtain ⟨l0, l1, l2, l3, l4⟩ := line_cells rl
  obtain ⟨r0, r1⟩ := hrc
  obtain ⟨n0, n1⟩ := hrn
  have hq : 0 ≤ e.rc / e.rn := Int.ediv_nonneg r0 (by omega)
  have hql : e.rc / e.rn < 18446744073709551616 := Int.lt_of_le_of_lt (Int.ediv_le_self _ r0) r1
  have hw1 : IntKind.u64.wrap e.rn = e.rn := by rw [IntKind.wrap_u64]; omega
  have hquo : e.rc.tdiv e.rn = e.rc / e.rn := Int.tdiv_eq_ediv_of_nonneg r0
  have hw2 : IntKind.u64.wrap (e.rc / e.rn) = e.rc / e.rn := by rw [IntKind.wrap_u64]; omega
  have hne : (e.rn = 0) = False := by simp; omega
  have htm : (e.rc / e.rn).tmod 2 = e.rc / e.rn % 2 := Int.tmod_eq_emod_of_nonneg hq
  have hw3 : IntKind.u64.wrap (e.rc / e.rn % 2) = e.rc / e.rn % 2 := by rw [IntKind.wrap_u64]; omega
  have hep : (e.rc / e.rn % 2 == 0) = ep e.rn e.rc := rfl
  obtain ⟨ev, hev⟩ : ∃ ev, ep e.rn e.rc = ev := ⟨_, rfl⟩
  refine wp_region_told (n := 122) (fun w' => w' = w2) (fun _ _ => True) (by kernel_rfl) (by kernel_rfl) (by rfl) hxw2 ?_
  repeat (first | (refine walk_pure (v := ?_) (fun _ => trivial) (fun _ => rfl) ?_ ?_; rotate_left; (focus (intro us w9 hS9 hF; subst hS9; clear hF; go_simp; (try with_reducible rfl); done)); simp only [Act.put, zA, zB, zC, Nat.reduceAdd]) | (refine walk_skip (fun _ => trivial) (fun _ => rfl) ?_; simp only [Act.put, zA, zB, zC, Nat.reduceAdd]))
  refine walk_done fun us w9 hS9 hF => ?_
  subst hS9
  clear hF
  clear c0 c1' c2 c3 c4 c5 c6 c7 c8 c9 fz l0 l1 l2 l3 l4 hq hql hw1 hquo hw2 hne htm hw3 hxw2
  obtain ⟨fv, hfv⟩ : ∃ fv, (e.want == -1) = fv := ⟨_, rfl⟩
  go_upto_region 2 with (fail)
  have hr : Row w9.drew g 155 (BV e Q (.slice B e.pt.length d)) := hr
  have rl : Row w9.drew W.heap.size 40 (LV k el false (m : Int) ack p) := rl
  have hB1 : Below W.heap.size W w9.drew := hB1.drew
  have hoB : OwnB w9.drew base 5 B e.pt.length d e.pt := hoB
  obtain ⟨w4, hxw4⟩ : ∃ w4, w9.drew = w4 := ⟨_, rfl⟩
  rw [hxw4] at hr rl hB1 hoB
  obtain ⟨⟨c0, c1', c2, c3, c4⟩, ⟨c5, c6, c7, c8, c9⟩, fz⟩ := bv_cells hr
  obtain ⟨l0, l1, l2, l3, l4⟩ := line_cells rl
  rw [hev] at h1
  have n1 : (el != ev) = false := by rw [show (el != ev) = !(el == ev) from rfl, h1]; rfl
  obtain rfl : fv = false := by rw [← hfv, h2]
  have n2 : (false != false) = false := rfl
  have d3 : decide ((m : Int) < 0) = false := decide_eq_false (by omega)
  have d4 : decide (56 < (m : Int)) = false := decide_eq_false (by omega)
  refine wp_region_told (n := 122) (fun w' => w' = w4) (fun _ _ => True) (by kernel_rfl) (by kernel_rfl) (by rfl) hxw4 ?_
  repeat (first | (refine walk_pure (v := ?_) (fun _ => trivial) (fun _ => rfl) ?_ ?_; rotate_left; (focus (intro us w9 hS9 hF; subst hS9; clear hF; go_simp; (try with_reducible rfl); done)); simp only [Act.put, zA, zB, zC, Nat.reduceAdd]) | (refine walk_skip (fun _ => trivial) (fun _ => rfl) ?_; simp only [Act.put, zA, zB, zC, Nat.reduceAdd]))
  refine walk_done fun us w9 hS9 hF => ?_
  subst hS9
  clear hF
  have hi0 : (0 : Int) ≤ (m : Int) := by omega
  have hi1 : (m : Int) ≤ 56 := by omega
  go_upto_region 13 with (fail)
  clear c0 c1' c2 c3 c4 c5 c6 c7 c8 c9 fz l0 l1 l2 l3 l4
  have hr : Row w9.drew g 155 (BV e Q (.slice B e.pt.length d)) := hr
  have rl : Row w9.drew W.heap.size 40 (LV k el false (m : Int) ack p) := rl
  have hB1 : Below W.heap.size W w9.drew := hB1.drew
  have hoB : OwnB w9.drew base 5 B e.pt.length d e.pt := hoB
  obtain ⟨w5, hxw5⟩ : ∃ w5, w9.drew = w5 := ⟨_, rfl⟩
  rw [hxw5] at hr rl hB1 hoB
  obtain ⟨⟨c0, c1', c2, c3, c4⟩, ⟨c5, c6, c7, c8, c9⟩, fz⟩ := bv_cells hr
  obtain ⟨l0, l1, l2, l3, l4⟩ := line_cells rl
  have hsub : IntKind.i64.wrap (e.want - e.pt.length) = e.want - e.pt.length := by rw [IntKind.wrap_i64]; omega
  have d6 : decide (56 < e.want - e.pt.length) = false := by simp; omega
  have d7 : ((m : Int) != e.want - e.pt.length) = false := by rw [HZ.out]; simp
  refine wp_region_told (n := 122) (fun w' => w' = w5) (fun _ _ => True) (by kernel_rfl) (by kernel_rfl) (by rfl) hxw5 ?_
  repeat (first | (refine walk_pure (v := ?_) (fun _ => trivial) (fun _ => rfl) ?_ ?_; rotate_left; (focus (intro us w9 hS9 hF; subst hS9; clear hF; go_simp; (try with_reducible rfl); done)); simp only [Act.put, zA, zB, zC, Nat.reduceAdd]) | (refine walk_skip (fun _ => trivial) (fun _ => rfl) ?_; simp only [Act.put, zA, zB, zC, Nat.reduceAdd]))
  refine walk_done fun us w9 hS9 hF => ?_
  subst hS9
  clear hF
  have hIb : IsB w9 (some ⟨W.heap.size, 5, none⟩) m (p.take m) := (pay_isB rl hl).pre m (by omega)
  have dc : decide ((e.pt.length : Int) + (m : Int) < e.want) = false := by have := HZ.out; simp; omega
  have hoB9 := hoB
  go_upto_region 16 with (at_builtin; (refine wp_append_b (P := Try.prog) rfl _ _ 44 rfl Try.underlying44 info_b hoB hIb (by omega) (by have := hB1.size; omega) rfl rfl ?_); intro B' n' d' w6 hn6 ho6 hb6 hg6 hat6; have hq6 := hn6.out; subst hq6; have hk6 := Keeps.grown hg6 hoB.typedR; have hr6 := hk6.row hr (by decide); obtain ⟨⟨-, -, -, -, -⟩, ⟨-, -, c7', c8', -⟩, fz'⟩ := bv_cells hr6)
  have u7 := (Upd.setCell w6 g 7 (.int .i64 e.want)).trans (Upd.setCell _ g 8 (.slice B' (e.pt.length + m) d'))
  have hr7 := (hr6.set 7 (.int .i64 e.want)).set 8 (.slice B' (e.pt.length + m) d')
  have ho7 := ho6.keeps (Keeps.upd u7 hr6 (by simp : 155 ∈ [155])) (by decide)
  generalize (w6.setCell ⟨g, 7, none⟩ (.int .i64 e.want)).setCell ⟨g, 8, none⟩ (.slice B' (e.pt.length + m) d') = w7 at *
  have hr7 : Row w7 g 155 (BW e.n e.s e.a Q e.off e.rn e.rc e.want (.slice B' (e.pt.length + m) d') e.told) := hr7
  clear c0 c1' c2 c3 c4 c5 c6 c7 c8 c9 fz l0 l1 l2 l3 l4 c7' c8' fz'
  obtain ⟨⟨c0, c1', c2, c3, c4⟩, ⟨c5, c6, c7, c8, c9⟩, fz⟩ := bw_cells hr7
  go_wp2
  refine bodyPost_ret (v := .tuple #[.slice B' (e.pt.length + m) d', .bool true, .bool true]) (by simp [results, Try.results108, go_sem]) rfl ?_
  have u8 := (Upd.setCell w7 g 7 (.int .i64 (-1))).trans (Upd.setCell _ g 8 (.slice none 0 0))
  have hr8 := (hr7.set 7 (.int .i64 (-1))).set 8 (.slice none 0 0)
  have ho8 := ho7.keeps (Keeps.upd u8 hr7 (by simp : 155 ∈ [155])) (by decide)
  refine .inr ⟨HD.out, B', d', ?_, two_of hB1 hg6 hk6 (u7.trans u8) hr6, .inr ⟨HE.out, ?_, ?_⟩⟩
  · rw [HPl.out, HP.out]; exact ho8
  · rw [HPl.out]
  · exact hr8
theorem acc_due (e : LE) (Q : Value) (base g : Nat) (B : Option Addr) (d : Nat) (k : Int) (el fl : Bool) (len ack : Int) (p : List UInt8) (W : World) (hr : Row W g 155 (BV e Q (.slice B e.pt.length d))) (hoB : OwnB W base 5 B e.pt.length d e.pt) (hl : p.length = 56) (hrn : 2 ≤ e.rn ∧ e.rn ≤ 64) (hrc : 0 ≤ e.rc ∧ e.rc < 18446744073709551616) (hw : -1 ≤ e.want ∧ e.want ≤ 1048576) (hpl : e.pt.length ≤ 1048576) (hbs : base ≤ W.heap.size) (hp0 : e.want = -1 → e.pt.length = 0) (hD : acD e el fl len p = true) : Calls Try.prog 108 #[.pointer (some ⟨g, 5, none⟩), .agg (LV k el fl len ack p)] W (AcP e Q base g (Value.slice B e.pt.length d).ownBlock el fl len p W) := by
  simp only [acD, Bool.and_eq_true, decide_eq_true_eq] at hD
  obtain ⟨⟨⟨⟨h1, h2⟩, h3⟩, h4⟩, h5⟩ := hD
  obtain ⟨m, rfl⟩ : ∃ m : Nat, len = m := ⟨len.toNat, by omega⟩
  have hm : m ≤ 56 := by omega
  cases hf : (e.want == -1)
  · obtain rfl : fl = false := by rw [hf] at h2; simpa using h2
    have h5 : (m : Int) = min (e.want - e.pt.length) 56 := by simpa using h5
    by_cases h6 : 56 < e.want - e.pt.length
    · exact acc_g3 e Q base g B d k el m ack p W hr hoB hl hrn hrc hw hpl hbs h1 hf hm h6 (by omega)
    · exact acc_g4 e Q base g B d k el m ack p W hr hoB hl hrn hrc hw hpl hbs h1 hf hm (by omega) (by omega)
  · obtain rfl : fl = true := by rw [hf] at h2; simpa using h2
    have hw1 : e.want = -1 := by simpa using hf
    have h5 : (4 ≤ (m : Int) ∧ acH p ≤ 1048576) ∧ (m : Int) - 4 = min (acH p : Int) 52 := by simpa using h5
    obtain ⟨b, rfl⟩ : ∃ b, m = b + 4 := ⟨m - 4, by omega⟩
    rw [show ((b + 4 : Nat) : Int) = (b : Int) + 4 from by omega]
    by_cases h7 : 52 < acH p
    · exact acc_f5 e Q base g B d k el b ack p W hr hoB hl hrn hrc hw hpl hbs h1 hw1 (hp0 hw1) (by omega) h7 (by omega)
    · exact acc_f6 e Q base g B d k el b ack p W hr hoB hl hrn hrc hw hpl hbs h1 hw1 (by omega) (by omega)
end
end Go.Proofs.Ythjkhambmgepdaa
