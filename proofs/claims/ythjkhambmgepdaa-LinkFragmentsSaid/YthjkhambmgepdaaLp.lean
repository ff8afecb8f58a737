/- The law LinkFragments. -/
import Derived.Test.YthjkhambmgepdaaLo
import Derived.Test.YthjkhambmgepdaaDcs
import Derived.Test.YthjkhambmgepdaaIsRow
namespace Go.Proofs.Ythjkhambmgepdaa
open Go.RowKit
set_option linter.unusedVariables false
theorem EvI.new0 {w : World} {g : Nat} {n : Int} (h : Row w g 69 (LEV (newL n) none 0 none 0)) : EvI w g (newL n) none 0 none 0 := ⟨h, 0, 0, .inr (Nat.zero_le _), Nat.zero_le _, fun w' _ => held_new n w'⟩
theorem OwnB.typed {w : World} {base : Nat} {e : TypeId} {A : Option Addr} {n c : Nat} {bs : List UInt8} (h : OwnB w base e A n c bs) : ∀ k, (Value.slice A n c).ownBlock = some k → ∃ t cs fr, w.heap[k]? = some (Obj.cells cs t fr) ∧ t ∈ [e] := OwnV.typed (size := 1) h
theorem OwnB.ge2 {w : World} {base : Nat} {e : TypeId} {A : Option Addr} {n c : Nat} {bs : List UInt8} (h : OwnB w base e A n c bs) : ∀ k, (Value.slice A n c).ownBlock = some k → base ≤ k ∧ k < w.heap.size := OwnV.ge (size := 1) h
theorem vl64 : vl 64 = true := by decide
theorem fix4 {L : Nat} (hL : L ≤ 3000) : fixB L 4 = [UInt8.ofNat (L % 256), UInt8.ofNat (L / 256), 0, 0] := by
  have h2 : L / 65536 % 256 = 0 := by omega
  have h3 : L / 16777216 % 256 = 0 := by omega
  have h1 : L / 256 % 256 = L / 256 := by omega
  simp [fixB, List.range_succ, h1, h2, h3]
theorem take_pad {P : List UInt8} (h : P.length ≤ 56) : (P ++ z56.drop P.length).take P.length = P ∧ (P ++ z56.drop P.length).length = 56 := ⟨List.take_left' rfl, by simp [z56]; omega⟩
set_option maxRecDepth 100000 in
set_option maxHeartbeats 8000000 in
theorem frags_big (Am : Option Addr) (cm : Nat) (m : List UInt8) (W : World) (h : 3000 < m.length) : Calls Try.prog 9 #[.slice Am m.length cm] W (True1 W) := by
  have d : decide (3000 < m.length) = true := by simpa using h
  go_enter Try.func9, Try.ntmps9
  go_wp2_with ((go_at_call 44; refine (awake20 _).mono ?_; rintro en wz ⟨rfl, hbz⟩))
  go_ret
  exact ⟨rfl, hbz⟩
set_option maxRecDepth 100000 in
set_option maxHeartbeats 8000000 in
theorem frags (Am : Option Addr) (cm : Nat) (m : List UInt8) (W : World) (hm : m.length ≤ 3000) (hIm : IsB W Am m.length m) : Calls Try.prog 9 #[.slice Am m.length cm] W (True1 W) := by
  have d : decide (3000 < m.length) = false := by simpa using hm
  obtain ⟨hq1, hq2⟩ := fg_enq hm
  have HQ1 := Lib.hid hq1
  have HQ2 := Lib.hid hq2
  clear hq1 hq2
  go_enter Try.func9, Try.ntmps9
  go_upto_region 4 with (first | (go_at_call 41; refine (new_is vl64 _).mono ?_; rintro en w1 ⟨rfl, hb⟩) | ((with_reducible refine wp_row_store (L := LEV (newL 64) none 0 none 0) (Row.bornAt (g := w1.heap.size) rfl 69 _) ?_ (lev_info _ _ _ _ _) (lev_one _ _ _ _ _) ?_ ?_ ?_); rfl; rfl; rfl; intro wa ua ra))
  have hBW := Upd.below (hb.trans (((Below.refl w1.heap.size w1).alloc (Nat.le_refl _) _).mono hb.size)) ua hb.size
  have hgW := hb.size
  generalize w1.heap.size = g3 at *
  have hev : EvI wa g3 (newL 64) none 0 none 0 := EvI.new0 ra
  have hh := hev.held
  have hIma := hIm.below hBW
  have hga := ra.lt
  clear hb ua
  go_upto_region 9 with (first | ((with_reducible refine wp_load_g ?_ ra.range Try.underlying69 rfl (lev_info _ _ _ _ _) ?_ ?_); rfl; rfl) | (go_at_call 42; refine (enq_is HQ1.out HQ2.out rfl (ty_new 64) hh hIma).mono ?_; rintro en w3 ⟨A3, c3, B3, d3, rfl, hH3, hb3⟩; have r3 := ra.below hb3 ra.lt) | ((with_reducible refine wp_row_store (L := LEV (fgE m 0) A3 c3 B3 d3) r3 ?_ (lev_info _ _ _ _ _) (lev_one _ _ _ _ _) ?_ ?_ ?_); rfl; rfl; rfl; intro w4 u4 r4))
  have hB4 := Upd.below (hBW.trans (hb3.mono hBW.size)) u4 hgW
  have hev4 : EvI w4 g3 (fgE m 0) A3 c3 B3 d3 := ⟨r4, _, _, .inl hga, hH3.upd u4 (.inl hga)⟩
  clear hev hh hIma hH3 hb3 r3 u4 r4 ra hBW hga
  go_loopw [6, 7] (fun bsv cnt wr => ∃ k A c B d A' n' c', k ≤ 54 ∧ cnt = .int .i64 ((k : Nat) : Int) ∧ bsv = .slice A' n' c' ∧ OwnB wr W.heap.size 5 A' n' c' (fgB m k) ∧ EvI wr g3 (fgE m k) A c B d ∧ Below W.heap.size W wr) (fun _ i _ => 60 - (intOf i).toNat)
  case atStart => exact ⟨0, A3, c3, B3, d3, none, 0, 0, by omega, rfl, rfl, OwnB.nil _ _ _, hev4, hB4⟩
  case round =>
    clear hev4 hB4
    obtain ⟨k, A, c, B, d', A', n', c', hk, rfl, rfl, ho, hev, hB⟩ := hrel
    have rv := hev.1
    have hh := hev.held
    have hgl := rv.lt
    have hty := fg_ty m k hm (by omega)
    cases hd : fgD m.length k
    · have hpe := Lib.hid (show pendE (fgE m k) = 1 by rw [fg_p m k hm (by omega), hd]; rfl)
      have h_e := Lib.hid (fg_e hm hd)
      have h_l := Lib.hid (fg_l hm hd)
      have h_pl := fg_plen hm hd
      have h_sh := Lib.hid (fg_short hd)
      have h_b := Lib.hid (fg_b hd)
      have hk53 := fg_bound hm hd
      obtain ⟨b, hb⟩ : ∃ b, decide (k = 0) = b := ⟨_, rfl⟩
      have hk0 : ((k : Int) == 0) = b := by rw [← hb]; rw [Bool.eq_iff_iff]; simp
      obtain ⟨hpad, hpad2⟩ := take_pad h_pl
      have h_d := fg_d hm hd
      rw [hb] at h_d
      have H_d := Lib.hid h_d
      have hln := (OwnB.len ho).symm
      have hln2 : (fgB m k).length ≤ 3004 := by unfold fgB; rw [List.length_take, List.length_append, fixB_len]; omega
      have hn3 : n' ≤ 3004 := by omega
      clear h_d hd hb hln hln2
      generalize frP (fgE m k) = P at *
      have dl1 : decide (56 < P.length) = false := by simp; omega
      have dk1 : decide (60 < k) = false := by simp; omega
      have HPAD := Lib.hid hpad
      clear hpad
      go_upto_region 11 with (first | ((with_reducible refine wp_load_g ?_ rv.range Try.underlying69 rfl (lev_info _ _ _ _ _) ?_ ?_); rfl; rfl) | (go_at_call 43; refine (pend_is hpe.out hty hh).mono ?_; rintro en wp ⟨rfl, hbp⟩))
      have rv2 := rv.below hbp hgl
      have hev2 := hev.below hbp
      have hh2 := hev2.held
      have ho2 := ho.below hbp
      have hB2 := hB.trans (hbp.mono hB.size)
      have hsz1 := hbp.size
      have hge1 := ho.ge2
      clear rv hev hh ho hB hbp
      go_upto_region 12 with (first | ((with_reducible refine wp_load_g ?_ rv2.range Try.underlying69 rfl (lev_info _ _ _ _ _) ?_ ?_); rfl; rfl) | (go_at_call 45; refine (next_is h_e.out h_l.out H_d.out hty hh2).mono ?_; rintro en w3 ⟨A3, c3, B3, d3, rfl, hH3, hb3⟩) | ((with_reducible refine wp_row_store (L := LEV (fgE m (k + 1)) A3 c3 B3 d3) ((Row.bornAt (g := w3.heap.size) rfl 69 _).alloc _) ?_ (lev_info _ _ _ _ _) (lev_one _ _ _ _ _) ?_ ?_ ?_); rfl; rfl; rfl; intro w4 u4 r8) | ((with_reducible refine wp_row_store (L := LV 1 (ep 64 k) b P.length 0 (P ++ z56.drop P.length)) ((Row.bornAt (g := w3.heap.size + 1) (by simp) 40 _).upd u4 (by omega)) ?_ (line_info _ _ _ _ _ hpad2) (LV_one _ _ _ _ _ _) ?_ ?_ ?_); exact (LV_size _ _ _ _ _ hpad2).symm; rfl; rfl; intro w5 u5 r9))
      have hal := ((Below.refl w3.heap.size w3).alloc (Nat.le_refl _) (.cells ZE 69)).alloc (by simp) (.cells ZL 40)
      have hal2 := Upd.below (Upd.below (hb3.trans (hal.mono hb3.size)) u4 hb3.size) u5 (by have := hb3.size; omega)
      have r8 := r8.upd u5 (by omega)
      have hH5 := ((hH3.below hal).upd u4 (.inr (Nat.le_refl _))).upd u5 (.inr (by omega))
      have rv5 := rv2.below hal2 rv2.lt
      have ho5 := ho2.below hal2
      have hB5 := hB2.trans (hal2.mono hB2.size)
      have hsz3 := hb3.size
      have hsz5 := hal2.size
      have hgl2 := rv2.lt
      have hlo : W.heap.size ≤ wp.heap.size := hB2.size
      clear hal hal2 hb3 hH3 u4 u5 rv2 hev2 hh2 ho2 hB2
      generalize w3.heap.size = g8 at *
      obtain ⟨l0, l1, l2, l3, l4⟩ := line_cells r9
      go_upto_region 14 with (fail)
      go_cut [83] (fun u wx => u = .bool false ∧ Below w5.heap.size w5 wx)
      case first =>
        by_cases hs : P.length < 56
        · have ds : decide (P.length < 56) = true := decide_eq_true hs
          have dsi : decide ((P.length : Int) < 56) = true := decide_eq_true (by omega)
          have hpe2 := Lib.hid (show pendE (fgE m (k + 1)) = 0 by rw [fg_p m (k + 1) hm (by omega), h_sh.out hs]; rfl)
          have hh5 := hH5.held
          have hty2 := fg_ty m (k + 1) hm (by omega)
          go_wp2_with (first | ((with_reducible refine wp_load_g ?_ r8.range Try.underlying69 rfl (lev_info _ _ _ _ _) ?_ ?_); rfl; rfl) | (go_at_call 43; refine (pend_is hpe2.out hty2 hh5).mono ?_; rintro en wq ⟨rfl, hbq⟩))
          go_meet
          exact ⟨rfl, hbq⟩
        · have ds : decide (P.length < 56) = false := decide_eq_false hs
          have dsi : decide ((P.length : Int) < 56) = false := decide_eq_false (by omega)
          go_wp2
          go_meet
          exact ⟨rfl, Below.refl _ _⟩
      case rest =>
      obtain ⟨rfl, hbc⟩ := hcut
      have r8 := r8.below hbc r8.lt
      have r9 := r9.below hbc r9.lt
      have rv5 := rv5.below hbc rv5.lt
      have hH5 := hH5.below hbc
      have ho5 := ho5.below hbc
      have hB5 := hB5.trans (hbc.mono hB5.size)
      have hszc := hbc.size
      clear hbc l0 l1 l2 l3 l4
      obtain ⟨l0, l1, l2, l3, l4⟩ := line_cells r9
      have hIP : IsB wc (some ⟨g8 + 1, 5, none⟩) P.length P := by
        have h := (pay_isB r9 hpad2).pre P.length h_pl
        rwa [HPAD.out] at h
      have hpi : (P.length : Int) ≤ 56 := by omega
      go_upto_region 17 with (at_builtin; (refine wp_append_b (P := Try.prog) rfl _ _ 44 rfl Try.underlying44 info_b ho5 hIP (by omega) (by have := hB5.size; omega) rfl rfl ?_); intro A6 n6 c6 w6 hn6 ho6 hb6 hg6 hat6; have hq6 := hn6.out; subst hq6)
      have hk6 : Keeps [5] wc w6 := Keeps.grown hg6 ho5.typed
      have r8 := hk6.row r8 (by decide)
      have rv6 := hk6.row rv5 (by decide)
      have hH6 := hH5.stay (Nat.le_trans hH5.1 hg6.size) (fun g h3 h4 => hg6.block g (by have := hH5.1; omega) (fun he => by
        have := hge1 g he.symm
        omega))
      have hB6 := hB5.trans hb6
      clear hk6 hg6 hat6 hn6 hH5 hIP l0 l1 l2 l3 l4 r9 rv5 ho5
      go_upto_region 10 with (first | ((with_reducible refine wp_load_g ?_ r8.range Try.underlying69 rfl (lev_info _ _ _ _ _) ?_ ?_); rfl; rfl) | ((with_reducible refine wp_row_store (L := LEV (fgE m (k + 1)) A3 c3 B3 d3) rv6 ?_ (lev_info _ _ _ _ _) (lev_one _ _ _ _ _) ?_ ?_ ?_); rfl; rfl; rfl; intro w8 u8 rr8))
      have hkv : Keeps [69] w6 w8 := Keeps.upd u8 rv6 (by simp)
      have ho8 := ho6.keeps hkv (by decide)
      have hB8 := Upd.below hB6 u8 hgW
      have hev8 : EvI w8 g3 (fgE m (k + 1)) A3 c3 B3 d3 := ⟨rr8, _, _, .inl (by omega), hH6.upd u8 (.inl (by omega))⟩
      rw [h_b.out] at ho8
      clear ho6 hkv u8 rr8 hH6 r8 rv6 hB6
      go_wp2
      exact ⟨⟨k + 1, A3, c3, B3, d3, A6, _, c6, by omega, by go_num, rfl, ho8, hev8, hB8⟩, by simp [intOf]; omega⟩
    · have hpe := Lib.hid (show pendE (fgE m k) = 0 by rw [fg_p m k hm (by omega), hd]; rfl)
      have hall := fg_all hd
      rw [hall] at ho
      clear hd hall
      go_upto_region 19 with (first | ((with_reducible refine wp_load_g ?_ rv.range Try.underlying69 rfl (lev_info _ _ _ _ _) ?_ ?_); rfl; rfl) | (go_at_call 43; refine (pend_is hpe.out hty hh).mono ?_; rintro en w7 ⟨rfl, hbp⟩))
      have ho7 := ho.below hbp
      have hB7 := hB.trans (hbp.mono hB.size)
      have hIm7 := hIm.below hB7
      clear ho hB hbp hev rv hh
      have hln := ho7.len
      rw [List.length_append, fixB_len, Nat.add_comm] at hln
      subst hln
      have hI7 := ho7.isB
      have hcap := ho7.capM
      obtain ⟨gb, hA, -, hgb, -⟩ := ho7.form (by omega)
      subst hA
      rw [fix4 hm] at hI7
      obtain ⟨bb, oo, e1, hx⟩ := hI7.2 (by omega)
      injection e1 with e1
      injection e1 with e1 e2 e3
      subst e1 e2
      obtain ⟨a0, ha0⟩ : ∃ a0, m.length % 256 = a0 := ⟨_, rfl⟩
      obtain ⟨a1, ha1⟩ : ∃ a1, m.length / 256 = a1 := ⟨_, rfl⟩
      have x0 : w7.cell? ⟨gb, 0, none⟩ = some (.int .u8 (a0 : Int)) := by
        have := hx 0 (by simp)
        rw [Nat.zero_add] at this
        rw [this]
        simp
        omega
      have x1 : w7.cell? ⟨gb, 1, none⟩ = some (.int .u8 (a1 : Int)) := by
        have := hx 1 (by simp)
        rw [Nat.zero_add] at this
        rw [this]
        simp
        omega
      have x2 : w7.cell? ⟨gb, 2, none⟩ = some (.int .u8 0) := by
        have := hx 2 (by simp)
        rw [Nat.zero_add] at this
        rw [this]
        rfl
      have x3 : w7.cell? ⟨gb, 3, none⟩ = some (.int .u8 0) := by
        have := hx 3 (by simp)
        rw [Nat.zero_add] at this
        rw [this]
        rfl
      have a0b : a0 < 256 := by omega
      have a1b : a1 < 256 := by omega
      have hsum : ((a0 : Int) + 256 * (a1 : Int) == (m.length : Int)) = true := by rw [beq_iff_eq]; omega
      have hS0 := hI7.sufB 4 (by omega)
      have hS1 : IsB w7 (some ⟨gb, 4, none⟩) m.length m := by
        rw [Nat.zero_add, Nat.add_sub_cancel] at hS0
        exact hS0
      clear hx hI7 hS0 ha0 ha1
      have hp0 : (0 : Int) < (m.length : Int) + 4 := by omega
      have hp1 : (1 : Int) < (m.length : Int) + 4 := by omega
      have hp2 : (2 : Int) < (m.length : Int) + 4 := by omega
      have hp3 : (3 : Int) < (m.length : Int) + 4 := by omega
      have hp4 : (4 : Int) ≤ (m.length : Int) + 4 := by omega
      have hw4 : IntKind.i64.wrap ((m.length : Int) + 4) = (m.length : Int) + 4 := by rw [IntKind.wrap_i64]; omega
      have hw5 : IntKind.i64.wrap (256 * (a1 : Int)) = 256 * (a1 : Int) := by rw [IntKind.wrap_i64]; omega
      have hw6 : IntKind.i64.wrap ((a0 : Int) + 256 * (a1 : Int)) = (a0 : Int) + 256 * (a1 : Int) := by rw [IntKind.wrap_i64]; omega
      have hw7 : IntKind.i64.wrap (a0 : Int) = (a0 : Int) := by rw [IntKind.wrap_i64]; omega
      have hw8 : IntKind.i64.wrap (a1 : Int) = (a1 : Int) := by rw [IntKind.wrap_i64]; omega
      rcases Nat.lt_or_ge 4 c' with h4 | h4
      · have hS4 := hS1
        have h4i : (4 : Int) ≤ (c' : Int) := by omega
        have h4n : (c' - 4 = 0) = False := by simp; omega
        have h4e : (c' = 4) = False := by simp; omega
        refine wp_region_told (n := 135) (fun w' => Below w7.heap.size w7 w') (fun _ _ => True) (by kernel_rfl) (by kernel_rfl) (by rfl) (Below.refl _ _).drew ?_
        refine walk_pure (v := ?_) (fun _ => trivial) (fun _ => rfl) ?_ ?_; rotate_left; (focus (intro us w9 hS9 hF; clear hF; go_simp; (try with_reducible rfl); done)); simp only [Act.put, List.setIfInBounds_toArray, List.set_cons_zero, List.set_cons_succ, Nat.reduceAdd]
        refine walk_pure (v := ?_) (fun _ => trivial) (fun _ => rfl) ?_ ?_; rotate_left; (focus (intro us w9 hS9 hF; clear hF; go_simp; (try with_reducible rfl); done)); simp only [Act.put, List.setIfInBounds_toArray, List.set_cons_zero, List.set_cons_succ, Nat.reduceAdd]
        refine walk_pure (v := ?_) (fun _ => trivial) (fun _ => rfl) ?_ ?_; rotate_left; (focus (intro us w9 hS9 hF; clear hF; go_simp; (try with_reducible rfl); done)); simp only [Act.put, List.setIfInBounds_toArray, List.set_cons_zero, List.set_cons_succ, Nat.reduceAdd]
        refine walk_pure (v := ?_) (fun _ => trivial) (fun _ => rfl) ?_ ?_; rotate_left; (focus (intro us w9 hS9 hF; clear hF; go_simp; (try with_reducible rfl); done)); simp only [Act.put, List.setIfInBounds_toArray, List.set_cons_zero, List.set_cons_succ, Nat.reduceAdd]
        refine walk_pure (v := .bool true) (fun _ => trivial) (fun _ => rfl) ?_ ?_; (focus (intro us w9 hS9 hF; clear hF; go_simp; (try with_reducible rfl); done)); simp only [Act.put, List.setIfInBounds_toArray, List.set_cons_zero, List.set_cons_succ, Nat.reduceAdd]
        refine walk_pure (v := .bool true) (fun _ => trivial) (fun _ => rfl) ?_ ?_; (focus (intro us w9 hS9 hF; clear hF; go_simp; (try with_reducible rfl); done)); simp only [Act.put, List.setIfInBounds_toArray, List.set_cons_zero, List.set_cons_succ, Nat.reduceAdd]
        refine walk_pure (v := ?_) (fun _ => trivial) (fun _ => rfl) ?_ ?_; rotate_left; (focus (intro us w9 hS9 hF; clear hF; go_simp; (try with_reducible rfl); done)); simp only [Act.put, List.setIfInBounds_toArray, List.set_cons_zero, List.set_cons_succ, Nat.reduceAdd]
        refine walk_pure (v := ?_) (fun _ => trivial) (fun _ => rfl) ?_ ?_; rotate_left; (focus (intro us w9 hS9 hF; clear hF; go_simp; (try with_reducible rfl); done)); simp only [Act.put, List.setIfInBounds_toArray, List.set_cons_zero, List.set_cons_succ, Nat.reduceAdd]
        refine walk_pure (v := .int .u8 (a0 : Int)) (fun _ => trivial) (fun _ => rfl) ?_ ?_; (focus (intro us w9 hS9 hF; clear hF; have y0 := (hS9.cell (p := ⟨gb, 0, none⟩) hgb).trans x0; have y1 := (hS9.cell (p := ⟨gb, 1, none⟩) hgb).trans x1; have y2 := (hS9.cell (p := ⟨gb, 2, none⟩) hgb).trans x2; have y3 := (hS9.cell (p := ⟨gb, 3, none⟩) hgb).trans x3; go_simp; (try with_reducible rfl); done)); simp only [Act.put, List.setIfInBounds_toArray, List.set_cons_zero, List.set_cons_succ, Nat.reduceAdd]
        refine walk_pure (v := .int .i64 (a0 : Int)) (fun _ => trivial) (fun _ => rfl) ?_ ?_; (focus (intro us w9 hS9 hF; clear hF; go_simp; (try with_reducible rfl); done)); simp only [Act.put, List.setIfInBounds_toArray, List.set_cons_zero, List.set_cons_succ, Nat.reduceAdd]
        refine walk_pure (v := ?_) (fun _ => trivial) (fun _ => rfl) ?_ ?_; rotate_left; (focus (intro us w9 hS9 hF; clear hF; go_simp; (try with_reducible rfl); done)); simp only [Act.put, List.setIfInBounds_toArray, List.set_cons_zero, List.set_cons_succ, Nat.reduceAdd]
        refine walk_pure (v := ?_) (fun _ => trivial) (fun _ => rfl) ?_ ?_; rotate_left; (focus (intro us w9 hS9 hF; clear hF; go_simp; (try with_reducible rfl); done)); simp only [Act.put, List.setIfInBounds_toArray, List.set_cons_zero, List.set_cons_succ, Nat.reduceAdd]
        refine walk_pure (v := .int .u8 (a1 : Int)) (fun _ => trivial) (fun _ => rfl) ?_ ?_; (focus (intro us w9 hS9 hF; clear hF; have y0 := (hS9.cell (p := ⟨gb, 0, none⟩) hgb).trans x0; have y1 := (hS9.cell (p := ⟨gb, 1, none⟩) hgb).trans x1; have y2 := (hS9.cell (p := ⟨gb, 2, none⟩) hgb).trans x2; have y3 := (hS9.cell (p := ⟨gb, 3, none⟩) hgb).trans x3; go_simp; (try with_reducible rfl); done)); simp only [Act.put, List.setIfInBounds_toArray, List.set_cons_zero, List.set_cons_succ, Nat.reduceAdd]
        refine walk_pure (v := .int .i64 (a1 : Int)) (fun _ => trivial) (fun _ => rfl) ?_ ?_; (focus (intro us w9 hS9 hF; clear hF; go_simp; (try with_reducible rfl); done)); simp only [Act.put, List.setIfInBounds_toArray, List.set_cons_zero, List.set_cons_succ, Nat.reduceAdd]
        refine walk_pure (v := .int .i64 (256 * (a1 : Int))) (fun _ => trivial) (fun _ => rfl) ?_ ?_; (focus (intro us w9 hS9 hF; clear hF; go_simp; (try with_reducible rfl); done)); simp only [Act.put, List.setIfInBounds_toArray, List.set_cons_zero, List.set_cons_succ, Nat.reduceAdd]
        refine walk_pure (v := .int .i64 ((a0 : Int) + 256 * (a1 : Int))) (fun _ => trivial) (fun _ => rfl) ?_ ?_; (focus (intro us w9 hS9 hF; clear hF; go_simp; (try with_reducible rfl); done)); simp only [Act.put, List.setIfInBounds_toArray, List.set_cons_zero, List.set_cons_succ, Nat.reduceAdd]
        refine walk_pure (v := ?_) (fun _ => trivial) (fun _ => rfl) ?_ ?_; rotate_left; (focus (intro us w9 hS9 hF; clear hF; go_simp; (try with_reducible rfl); done)); simp only [Act.put, List.setIfInBounds_toArray, List.set_cons_zero, List.set_cons_succ, Nat.reduceAdd]
        refine walk_pure (v := .bool true) (fun _ => trivial) (fun _ => rfl) ?_ ?_; (focus (intro us w9 hS9 hF; clear hF; go_simp; (try with_reducible rfl); done)); simp only [Act.put, List.setIfInBounds_toArray, List.set_cons_zero, List.set_cons_succ, Nat.reduceAdd]
        refine walk_pure (v := .bool true) (fun _ => trivial) (fun _ => rfl) ?_ ?_; (focus (intro us w9 hS9 hF; clear hF; go_simp; (try with_reducible rfl); done)); simp only [Act.put, List.setIfInBounds_toArray, List.set_cons_zero, List.set_cons_succ, Nat.reduceAdd]
        refine walk_pure (v := .bool true) (fun _ => trivial) (fun _ => rfl) ?_ ?_; (focus (intro us w9 hS9 hF; clear hF; go_simp; (try with_reducible rfl); done)); simp only [Act.put, List.setIfInBounds_toArray, List.set_cons_zero, List.set_cons_succ, Nat.reduceAdd]
        refine walk_pure (v := ?_) (fun _ => trivial) (fun _ => rfl) ?_ ?_; rotate_left; (focus (intro us w9 hS9 hF; clear hF; go_simp; (try with_reducible rfl); done)); simp only [Act.put, List.setIfInBounds_toArray, List.set_cons_zero, List.set_cons_succ, Nat.reduceAdd]
        refine walk_pure (v := ?_) (fun _ => trivial) (fun _ => rfl) ?_ ?_; rotate_left; (focus (intro us w9 hS9 hF; clear hF; go_simp; (try with_reducible rfl); done)); simp only [Act.put, List.setIfInBounds_toArray, List.set_cons_zero, List.set_cons_succ, Nat.reduceAdd]
        refine walk_pure (v := .int .u8 0) (fun _ => trivial) (fun _ => rfl) ?_ ?_; (focus (intro us w9 hS9 hF; clear hF; have y0 := (hS9.cell (p := ⟨gb, 0, none⟩) hgb).trans x0; have y1 := (hS9.cell (p := ⟨gb, 1, none⟩) hgb).trans x1; have y2 := (hS9.cell (p := ⟨gb, 2, none⟩) hgb).trans x2; have y3 := (hS9.cell (p := ⟨gb, 3, none⟩) hgb).trans x3; go_simp; (try with_reducible rfl); done)); simp only [Act.put, List.setIfInBounds_toArray, List.set_cons_zero, List.set_cons_succ, Nat.reduceAdd]
        refine walk_pure (v := .bool true) (fun _ => trivial) (fun _ => rfl) ?_ ?_; (focus (intro us w9 hS9 hF; clear hF; go_simp; (try with_reducible rfl); done)); simp only [Act.put, List.setIfInBounds_toArray, List.set_cons_zero, List.set_cons_succ, Nat.reduceAdd]
        refine walk_pure (v := .bool true) (fun _ => trivial) (fun _ => rfl) ?_ ?_; (focus (intro us w9 hS9 hF; clear hF; go_simp; (try with_reducible rfl); done)); simp only [Act.put, List.setIfInBounds_toArray, List.set_cons_zero, List.set_cons_succ, Nat.reduceAdd]
        refine walk_pure (v := .bool true) (fun _ => trivial) (fun _ => rfl) ?_ ?_; (focus (intro us w9 hS9 hF; clear hF; go_simp; (try with_reducible rfl); done)); simp only [Act.put, List.setIfInBounds_toArray, List.set_cons_zero, List.set_cons_succ, Nat.reduceAdd]
        refine walk_pure (v := ?_) (fun _ => trivial) (fun _ => rfl) ?_ ?_; rotate_left; (focus (intro us w9 hS9 hF; clear hF; go_simp; (try with_reducible rfl); done)); simp only [Act.put, List.setIfInBounds_toArray, List.set_cons_zero, List.set_cons_succ, Nat.reduceAdd]
        refine walk_pure (v := ?_) (fun _ => trivial) (fun _ => rfl) ?_ ?_; rotate_left; (focus (intro us w9 hS9 hF; clear hF; go_simp; (try with_reducible rfl); done)); simp only [Act.put, List.setIfInBounds_toArray, List.set_cons_zero, List.set_cons_succ, Nat.reduceAdd]
        refine walk_pure (v := .int .u8 0) (fun _ => trivial) (fun _ => rfl) ?_ ?_; (focus (intro us w9 hS9 hF; clear hF; have y0 := (hS9.cell (p := ⟨gb, 0, none⟩) hgb).trans x0; have y1 := (hS9.cell (p := ⟨gb, 1, none⟩) hgb).trans x1; have y2 := (hS9.cell (p := ⟨gb, 2, none⟩) hgb).trans x2; have y3 := (hS9.cell (p := ⟨gb, 3, none⟩) hgb).trans x3; go_simp; (try with_reducible rfl); done)); simp only [Act.put, List.setIfInBounds_toArray, List.set_cons_zero, List.set_cons_succ, Nat.reduceAdd]
        refine walk_pure (v := .bool true) (fun _ => trivial) (fun _ => rfl) ?_ ?_; (focus (intro us w9 hS9 hF; clear hF; go_simp; (try with_reducible rfl); done)); simp only [Act.put, List.setIfInBounds_toArray, List.set_cons_zero, List.set_cons_succ, Nat.reduceAdd]
        refine walk_pure (v := .bool true) (fun _ => trivial) (fun _ => rfl) ?_ ?_; (focus (intro us w9 hS9 hF; clear hF; go_simp; (try with_reducible rfl); done)); simp only [Act.put, List.setIfInBounds_toArray, List.set_cons_zero, List.set_cons_succ, Nat.reduceAdd]
        refine walk_pure (v := .bool true) (fun _ => trivial) (fun _ => rfl) ?_ ?_; (focus (intro us w9 hS9 hF; clear hF; go_simp; (try with_reducible rfl); done)); simp only [Act.put, List.setIfInBounds_toArray, List.set_cons_zero, List.set_cons_succ, Nat.reduceAdd]
        refine walk_pure (v := ?_) (fun _ => trivial) (fun _ => rfl) ?_ ?_; rotate_left; (focus (intro us w9 hS9 hF; clear hF; go_simp; (try with_reducible rfl); done)); simp only [Act.put, List.setIfInBounds_toArray, List.set_cons_zero, List.set_cons_succ, Nat.reduceAdd]
        refine walk_pure (v := .slice (some ⟨gb, 4, none⟩) m.length (c' - 4)) (fun _ => trivial) (fun _ => rfl) ?_ ?_; (focus (intro us w9 hS9 hF; clear hF; go_simp; (try with_reducible rfl))); simp only [Act.put, List.setIfInBounds_toArray, List.set_cons_zero, List.set_cons_succ, Nat.reduceAdd]
        refine walk_pure (v := .string ⟨m.toArray⟩) (fun _ => trivial) (fun _ => rfl) ?_ ?_; (focus (intro us w9 hS9 hF; exact exec_str (hS4.below hS9) rfl)); simp only [Act.put, List.setIfInBounds_toArray, List.set_cons_zero, List.set_cons_succ, Nat.reduceAdd]
        refine walk_pure (v := ?_) (fun _ => trivial) (fun _ => rfl) ?_ ?_; rotate_left; (focus (intro us w9 hS9 hF; clear hF; go_simp; (try with_reducible rfl); done)); simp only [Act.put, List.setIfInBounds_toArray, List.set_cons_zero, List.set_cons_succ, Nat.reduceAdd]
        refine walk_pure (v := .string ⟨m.toArray⟩) (fun _ => trivial) (fun _ => rfl) ?_ ?_; (focus (intro us w9 hS9 hF; exact exec_str (hIm7.below hS9) rfl)); simp only [Act.put, List.setIfInBounds_toArray, List.set_cons_zero, List.set_cons_succ, Nat.reduceAdd]
        refine walk_pure (v := .bool true) (fun _ => trivial) (fun _ => rfl) ?_ ?_; (focus (intro us w9 hS9 hF; clear hF; go_simp; (try with_reducible rfl); done)); simp only [Act.put, List.setIfInBounds_toArray, List.set_cons_zero, List.set_cons_succ, Nat.reduceAdd]
        refine walk_pure (v := .bool true) (fun _ => trivial) (fun _ => rfl) ?_ ?_; (focus (intro us w9 hS9 hF; clear hF; go_simp; (try with_reducible rfl); done)); simp only [Act.put, List.setIfInBounds_toArray, List.set_cons_zero, List.set_cons_succ, Nat.reduceAdd]
        refine walk_pure (v := .bool true) (fun _ => trivial) (fun _ => rfl) ?_ ?_; (focus (intro us w9 hS9 hF; clear hF; go_simp; (try with_reducible rfl); done)); simp only [Act.put, List.setIfInBounds_toArray, List.set_cons_zero, List.set_cons_succ, Nat.reduceAdd]
        refine walk_fix (v := .bool true) ?_ ?_; (focus (intro us w9 hS9 hF K hK; clear hF; go_simp; refine (awake20 _).mono ?_; rintro en w' ⟨rfl, hb⟩; exact hK _ (below_on hS9 hb) trivial)); simp only [Act.put, List.setIfInBounds_toArray, List.set_cons_zero, List.set_cons_succ, Nat.reduceAdd]
        refine walk_pure (v := .bool true) (fun _ => trivial) (fun _ => rfl) ?_ ?_; (focus (intro us w9 hS9 hF; clear hF; go_simp; (try with_reducible rfl); done)); simp only [Act.put, List.setIfInBounds_toArray, List.set_cons_zero, List.set_cons_succ, Nat.reduceAdd]
        refine walk_pure (v := .bool true) (fun _ => trivial) (fun _ => rfl) ?_ ?_; (focus (intro us w9 hS9 hF; clear hF; go_simp; (try with_reducible rfl); done)); simp only [Act.put, List.setIfInBounds_toArray, List.set_cons_zero, List.set_cons_succ, Nat.reduceAdd]
        refine walk_done fun us w9 hS9 hF => ?_
        clear hF
        go_wp2
        go_ret
        exact ⟨rfl, hB7.trans (hS9.mono hB7.size)⟩
      · obtain rfl : c' = 4 := by omega
        have hm0 : m = [] := List.eq_nil_of_length_eq_zero (by omega)
        have hS4 : IsB w7 (some ⟨gb, 0, none⟩) m.length m := by rw [hm0]; exact IsB.nil _ _
        have hml0 : m.length = 0 := by rw [hm0]; rfl
        have HM0 := Lib.hid hm0
        clear hm0 hml0
        refine wp_region_told (n := 135) (fun w' => Below w7.heap.size w7 w') (fun _ _ => True) (by kernel_rfl) (by kernel_rfl) (by rfl) (Below.refl _ _).drew ?_
        refine walk_pure (v := ?_) (fun _ => trivial) (fun _ => rfl) ?_ ?_; rotate_left; (focus (intro us w9 hS9 hF; clear hF; go_simp; (try with_reducible rfl); done)); simp only [Act.put, List.setIfInBounds_toArray, List.set_cons_zero, List.set_cons_succ, Nat.reduceAdd]
        refine walk_pure (v := ?_) (fun _ => trivial) (fun _ => rfl) ?_ ?_; rotate_left; (focus (intro us w9 hS9 hF; clear hF; go_simp; (try with_reducible rfl); done)); simp only [Act.put, List.setIfInBounds_toArray, List.set_cons_zero, List.set_cons_succ, Nat.reduceAdd]
        refine walk_pure (v := ?_) (fun _ => trivial) (fun _ => rfl) ?_ ?_; rotate_left; (focus (intro us w9 hS9 hF; clear hF; go_simp; (try with_reducible rfl); done)); simp only [Act.put, List.setIfInBounds_toArray, List.set_cons_zero, List.set_cons_succ, Nat.reduceAdd]
        refine walk_pure (v := ?_) (fun _ => trivial) (fun _ => rfl) ?_ ?_; rotate_left; (focus (intro us w9 hS9 hF; clear hF; go_simp; (try with_reducible rfl); done)); simp only [Act.put, List.setIfInBounds_toArray, List.set_cons_zero, List.set_cons_succ, Nat.reduceAdd]
        refine walk_pure (v := .bool true) (fun _ => trivial) (fun _ => rfl) ?_ ?_; (focus (intro us w9 hS9 hF; clear hF; go_simp; (try with_reducible rfl); done)); simp only [Act.put, List.setIfInBounds_toArray, List.set_cons_zero, List.set_cons_succ, Nat.reduceAdd]
        refine walk_pure (v := .bool true) (fun _ => trivial) (fun _ => rfl) ?_ ?_; (focus (intro us w9 hS9 hF; clear hF; go_simp; (try with_reducible rfl); done)); simp only [Act.put, List.setIfInBounds_toArray, List.set_cons_zero, List.set_cons_succ, Nat.reduceAdd]
        refine walk_pure (v := ?_) (fun _ => trivial) (fun _ => rfl) ?_ ?_; rotate_left; (focus (intro us w9 hS9 hF; clear hF; go_simp; (try with_reducible rfl); done)); simp only [Act.put, List.setIfInBounds_toArray, List.set_cons_zero, List.set_cons_succ, Nat.reduceAdd]
        refine walk_pure (v := ?_) (fun _ => trivial) (fun _ => rfl) ?_ ?_; rotate_left; (focus (intro us w9 hS9 hF; clear hF; go_simp; (try with_reducible rfl); done)); simp only [Act.put, List.setIfInBounds_toArray, List.set_cons_zero, List.set_cons_succ, Nat.reduceAdd]
        refine walk_pure (v := .int .u8 (a0 : Int)) (fun _ => trivial) (fun _ => rfl) ?_ ?_; (focus (intro us w9 hS9 hF; clear hF; have y0 := (hS9.cell (p := ⟨gb, 0, none⟩) hgb).trans x0; have y1 := (hS9.cell (p := ⟨gb, 1, none⟩) hgb).trans x1; have y2 := (hS9.cell (p := ⟨gb, 2, none⟩) hgb).trans x2; have y3 := (hS9.cell (p := ⟨gb, 3, none⟩) hgb).trans x3; go_simp; (try with_reducible rfl); done)); simp only [Act.put, List.setIfInBounds_toArray, List.set_cons_zero, List.set_cons_succ, Nat.reduceAdd]
        refine walk_pure (v := .int .i64 (a0 : Int)) (fun _ => trivial) (fun _ => rfl) ?_ ?_; (focus (intro us w9 hS9 hF; clear hF; go_simp; (try with_reducible rfl); done)); simp only [Act.put, List.setIfInBounds_toArray, List.set_cons_zero, List.set_cons_succ, Nat.reduceAdd]
        refine walk_pure (v := ?_) (fun _ => trivial) (fun _ => rfl) ?_ ?_; rotate_left; (focus (intro us w9 hS9 hF; clear hF; go_simp; (try with_reducible rfl); done)); simp only [Act.put, List.setIfInBounds_toArray, List.set_cons_zero, List.set_cons_succ, Nat.reduceAdd]
        refine walk_pure (v := ?_) (fun _ => trivial) (fun _ => rfl) ?_ ?_; rotate_left; (focus (intro us w9 hS9 hF; clear hF; go_simp; (try with_reducible rfl); done)); simp only [Act.put, List.setIfInBounds_toArray, List.set_cons_zero, List.set_cons_succ, Nat.reduceAdd]
        refine walk_pure (v := .int .u8 (a1 : Int)) (fun _ => trivial) (fun _ => rfl) ?_ ?_; (focus (intro us w9 hS9 hF; clear hF; have y0 := (hS9.cell (p := ⟨gb, 0, none⟩) hgb).trans x0; have y1 := (hS9.cell (p := ⟨gb, 1, none⟩) hgb).trans x1; have y2 := (hS9.cell (p := ⟨gb, 2, none⟩) hgb).trans x2; have y3 := (hS9.cell (p := ⟨gb, 3, none⟩) hgb).trans x3; go_simp; (try with_reducible rfl); done)); simp only [Act.put, List.setIfInBounds_toArray, List.set_cons_zero, List.set_cons_succ, Nat.reduceAdd]
        refine walk_pure (v := .int .i64 (a1 : Int)) (fun _ => trivial) (fun _ => rfl) ?_ ?_; (focus (intro us w9 hS9 hF; clear hF; go_simp; (try with_reducible rfl); done)); simp only [Act.put, List.setIfInBounds_toArray, List.set_cons_zero, List.set_cons_succ, Nat.reduceAdd]
        refine walk_pure (v := .int .i64 (256 * (a1 : Int))) (fun _ => trivial) (fun _ => rfl) ?_ ?_; (focus (intro us w9 hS9 hF; clear hF; go_simp; (try with_reducible rfl); done)); simp only [Act.put, List.setIfInBounds_toArray, List.set_cons_zero, List.set_cons_succ, Nat.reduceAdd]
        refine walk_pure (v := .int .i64 ((a0 : Int) + 256 * (a1 : Int))) (fun _ => trivial) (fun _ => rfl) ?_ ?_; (focus (intro us w9 hS9 hF; clear hF; go_simp; (try with_reducible rfl); done)); simp only [Act.put, List.setIfInBounds_toArray, List.set_cons_zero, List.set_cons_succ, Nat.reduceAdd]
        refine walk_pure (v := ?_) (fun _ => trivial) (fun _ => rfl) ?_ ?_; rotate_left; (focus (intro us w9 hS9 hF; clear hF; go_simp; (try with_reducible rfl); done)); simp only [Act.put, List.setIfInBounds_toArray, List.set_cons_zero, List.set_cons_succ, Nat.reduceAdd]
        refine walk_pure (v := .bool true) (fun _ => trivial) (fun _ => rfl) ?_ ?_; (focus (intro us w9 hS9 hF; clear hF; go_simp; (try with_reducible rfl); done)); simp only [Act.put, List.setIfInBounds_toArray, List.set_cons_zero, List.set_cons_succ, Nat.reduceAdd]
        refine walk_pure (v := .bool true) (fun _ => trivial) (fun _ => rfl) ?_ ?_; (focus (intro us w9 hS9 hF; clear hF; go_simp; (try with_reducible rfl); done)); simp only [Act.put, List.setIfInBounds_toArray, List.set_cons_zero, List.set_cons_succ, Nat.reduceAdd]
        refine walk_pure (v := .bool true) (fun _ => trivial) (fun _ => rfl) ?_ ?_; (focus (intro us w9 hS9 hF; clear hF; go_simp; (try with_reducible rfl); done)); simp only [Act.put, List.setIfInBounds_toArray, List.set_cons_zero, List.set_cons_succ, Nat.reduceAdd]
        refine walk_pure (v := ?_) (fun _ => trivial) (fun _ => rfl) ?_ ?_; rotate_left; (focus (intro us w9 hS9 hF; clear hF; go_simp; (try with_reducible rfl); done)); simp only [Act.put, List.setIfInBounds_toArray, List.set_cons_zero, List.set_cons_succ, Nat.reduceAdd]
        refine walk_pure (v := ?_) (fun _ => trivial) (fun _ => rfl) ?_ ?_; rotate_left; (focus (intro us w9 hS9 hF; clear hF; go_simp; (try with_reducible rfl); done)); simp only [Act.put, List.setIfInBounds_toArray, List.set_cons_zero, List.set_cons_succ, Nat.reduceAdd]
        refine walk_pure (v := .int .u8 0) (fun _ => trivial) (fun _ => rfl) ?_ ?_; (focus (intro us w9 hS9 hF; clear hF; have y0 := (hS9.cell (p := ⟨gb, 0, none⟩) hgb).trans x0; have y1 := (hS9.cell (p := ⟨gb, 1, none⟩) hgb).trans x1; have y2 := (hS9.cell (p := ⟨gb, 2, none⟩) hgb).trans x2; have y3 := (hS9.cell (p := ⟨gb, 3, none⟩) hgb).trans x3; go_simp; (try with_reducible rfl); done)); simp only [Act.put, List.setIfInBounds_toArray, List.set_cons_zero, List.set_cons_succ, Nat.reduceAdd]
        refine walk_pure (v := .bool true) (fun _ => trivial) (fun _ => rfl) ?_ ?_; (focus (intro us w9 hS9 hF; clear hF; go_simp; (try with_reducible rfl); done)); simp only [Act.put, List.setIfInBounds_toArray, List.set_cons_zero, List.set_cons_succ, Nat.reduceAdd]
        refine walk_pure (v := .bool true) (fun _ => trivial) (fun _ => rfl) ?_ ?_; (focus (intro us w9 hS9 hF; clear hF; go_simp; (try with_reducible rfl); done)); simp only [Act.put, List.setIfInBounds_toArray, List.set_cons_zero, List.set_cons_succ, Nat.reduceAdd]
        refine walk_pure (v := .bool true) (fun _ => trivial) (fun _ => rfl) ?_ ?_; (focus (intro us w9 hS9 hF; clear hF; go_simp; (try with_reducible rfl); done)); simp only [Act.put, List.setIfInBounds_toArray, List.set_cons_zero, List.set_cons_succ, Nat.reduceAdd]
        refine walk_pure (v := ?_) (fun _ => trivial) (fun _ => rfl) ?_ ?_; rotate_left; (focus (intro us w9 hS9 hF; clear hF; go_simp; (try with_reducible rfl); done)); simp only [Act.put, List.setIfInBounds_toArray, List.set_cons_zero, List.set_cons_succ, Nat.reduceAdd]
        refine walk_pure (v := ?_) (fun _ => trivial) (fun _ => rfl) ?_ ?_; rotate_left; (focus (intro us w9 hS9 hF; clear hF; go_simp; (try with_reducible rfl); done)); simp only [Act.put, List.setIfInBounds_toArray, List.set_cons_zero, List.set_cons_succ, Nat.reduceAdd]
        refine walk_pure (v := .int .u8 0) (fun _ => trivial) (fun _ => rfl) ?_ ?_; (focus (intro us w9 hS9 hF; clear hF; have y0 := (hS9.cell (p := ⟨gb, 0, none⟩) hgb).trans x0; have y1 := (hS9.cell (p := ⟨gb, 1, none⟩) hgb).trans x1; have y2 := (hS9.cell (p := ⟨gb, 2, none⟩) hgb).trans x2; have y3 := (hS9.cell (p := ⟨gb, 3, none⟩) hgb).trans x3; go_simp; (try with_reducible rfl); done)); simp only [Act.put, List.setIfInBounds_toArray, List.set_cons_zero, List.set_cons_succ, Nat.reduceAdd]
        refine walk_pure (v := .bool true) (fun _ => trivial) (fun _ => rfl) ?_ ?_; (focus (intro us w9 hS9 hF; clear hF; go_simp; (try with_reducible rfl); done)); simp only [Act.put, List.setIfInBounds_toArray, List.set_cons_zero, List.set_cons_succ, Nat.reduceAdd]
        refine walk_pure (v := .bool true) (fun _ => trivial) (fun _ => rfl) ?_ ?_; (focus (intro us w9 hS9 hF; clear hF; go_simp; (try with_reducible rfl); done)); simp only [Act.put, List.setIfInBounds_toArray, List.set_cons_zero, List.set_cons_succ, Nat.reduceAdd]
        refine walk_pure (v := .bool true) (fun _ => trivial) (fun _ => rfl) ?_ ?_; (focus (intro us w9 hS9 hF; clear hF; go_simp; (try with_reducible rfl); done)); simp only [Act.put, List.setIfInBounds_toArray, List.set_cons_zero, List.set_cons_succ, Nat.reduceAdd]
        refine walk_pure (v := ?_) (fun _ => trivial) (fun _ => rfl) ?_ ?_; rotate_left; (focus (intro us w9 hS9 hF; clear hF; go_simp; (try with_reducible rfl); done)); simp only [Act.put, List.setIfInBounds_toArray, List.set_cons_zero, List.set_cons_succ, Nat.reduceAdd]
        refine walk_pure (v := .slice (some ⟨gb, 0, none⟩) m.length (0)) (fun _ => trivial) (fun _ => rfl) ?_ ?_; (focus (intro us w9 hS9 hF; clear hF; go_simp; (try with_reducible rfl); rw [HM0.out]; rfl)); simp only [Act.put, List.setIfInBounds_toArray, List.set_cons_zero, List.set_cons_succ, Nat.reduceAdd]
        refine walk_pure (v := .string ⟨m.toArray⟩) (fun _ => trivial) (fun _ => rfl) ?_ ?_; (focus (intro us w9 hS9 hF; exact exec_str (hS4.below hS9) rfl)); simp only [Act.put, List.setIfInBounds_toArray, List.set_cons_zero, List.set_cons_succ, Nat.reduceAdd]
        refine walk_pure (v := ?_) (fun _ => trivial) (fun _ => rfl) ?_ ?_; rotate_left; (focus (intro us w9 hS9 hF; clear hF; go_simp; (try with_reducible rfl); done)); simp only [Act.put, List.setIfInBounds_toArray, List.set_cons_zero, List.set_cons_succ, Nat.reduceAdd]
        refine walk_pure (v := .string ⟨m.toArray⟩) (fun _ => trivial) (fun _ => rfl) ?_ ?_; (focus (intro us w9 hS9 hF; exact exec_str (hIm7.below hS9) rfl)); simp only [Act.put, List.setIfInBounds_toArray, List.set_cons_zero, List.set_cons_succ, Nat.reduceAdd]
        refine walk_pure (v := .bool true) (fun _ => trivial) (fun _ => rfl) ?_ ?_; (focus (intro us w9 hS9 hF; clear hF; go_simp; (try with_reducible rfl); done)); simp only [Act.put, List.setIfInBounds_toArray, List.set_cons_zero, List.set_cons_succ, Nat.reduceAdd]
        refine walk_pure (v := .bool true) (fun _ => trivial) (fun _ => rfl) ?_ ?_; (focus (intro us w9 hS9 hF; clear hF; go_simp; (try with_reducible rfl); done)); simp only [Act.put, List.setIfInBounds_toArray, List.set_cons_zero, List.set_cons_succ, Nat.reduceAdd]
        refine walk_pure (v := .bool true) (fun _ => trivial) (fun _ => rfl) ?_ ?_; (focus (intro us w9 hS9 hF; clear hF; go_simp; (try with_reducible rfl); done)); simp only [Act.put, List.setIfInBounds_toArray, List.set_cons_zero, List.set_cons_succ, Nat.reduceAdd]
        refine walk_fix (v := .bool true) ?_ ?_; (focus (intro us w9 hS9 hF K hK; clear hF; go_simp; refine (awake20 _).mono ?_; rintro en w' ⟨rfl, hb⟩; exact hK _ (below_on hS9 hb) trivial)); simp only [Act.put, List.setIfInBounds_toArray, List.set_cons_zero, List.set_cons_succ, Nat.reduceAdd]
        refine walk_pure (v := .bool true) (fun _ => trivial) (fun _ => rfl) ?_ ?_; (focus (intro us w9 hS9 hF; clear hF; go_simp; (try with_reducible rfl); done)); simp only [Act.put, List.setIfInBounds_toArray, List.set_cons_zero, List.set_cons_succ, Nat.reduceAdd]
        refine walk_pure (v := .bool true) (fun _ => trivial) (fun _ => rfl) ?_ ?_; (focus (intro us w9 hS9 hF; clear hF; go_simp; (try with_reducible rfl); done)); simp only [Act.put, List.setIfInBounds_toArray, List.set_cons_zero, List.set_cons_succ, Nat.reduceAdd]
        refine walk_done fun us w9 hS9 hF => ?_
        clear hF
        go_wp2
        go_ret
        exact ⟨rfl, hB7.trans (hS9.mono hB7.size)⟩
theorem walk_frags (W : World) (A : Option Addr) (n c : Nat) (z : List Int) (h : IsRow .u8 W A n c z) : Calls Try.prog 9 #[.slice A n c] W (True1 W) := by
  obtain ⟨m, hm, -⟩ := h.isB
  have hl := hm.1
  subst hl
  by_cases hb : 3000 < m.length
  · exact frags_big A c m W hb
  · exact frags A c m W (by omega) hm
end Go.Proofs.Ythjkhambmgepdaa
