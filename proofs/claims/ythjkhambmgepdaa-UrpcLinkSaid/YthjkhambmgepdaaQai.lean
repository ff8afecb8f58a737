/- Texts Uh, without what this claim does not use. -/
import Derived.Test.YthjkhambmgepdaaQah
namespace Go.Proofs.Ythjkhambmgepdaa
section
open Go.RowKit
set_option linter.unusedVariables false
set_option linter.unusedSimpArgs false
def rpM (n r : Int) (b : List UInt8) : RM := ⟨2, n, 0, r, b⟩
def repE (e : UE) (n r : Int) (b : List UInt8) : Int := if uE e = 0 then (if n ∈ e.ss then (if (rpM n r b).ok = true then 0 else 1) else 17) else uE e
def repU (e : UE) (n : Int) : UE := { e with ss := e.ss.eraseIdx (e.ss.idxOf n) }
def RepP (e : UE) (n r : Int) (b : List UInt8) (W : World) (en : Ending) (W' : World) : Prop := Below W.heap.size W W' ∧
  ((repE e n r b ≠ 0 ∧ en = .returned (.tuple #[.agg ZU, .slice none 0 0, .int .i64 (repE e n r b)])) ∨
   (repE e n r b = 0 ∧ ∃ A c B d g, en = .returned (.tuple #[.agg (UEV (repU e n) A c B d), .slice (some ⟨g, 0, none⟩) (rpM n r b).by.length (rpM n r b).by.length, .int .i64 0]) ∧ OwnU W' W.heap.size (repU e n) A c B d ∧ W.heap.size ≤ g ∧ IsB W' (some ⟨g, 0, none⟩) (rpM n r b).by.length (rpM n r b).by))
theorem rep_no {e : UE} {n r : Int} {b : List UInt8} {x : Int} {W W' : World} (h : repE e n r b = x) (hx : x ≠ 0) (hb : Below W.heap.size W W') : RepP e n r b W (.returned (.tuple #[.agg ZU, .slice none 0 0, .int .i64 x])) W' := ⟨hb, .inl ⟨by rw [h]; exact hx, by rw [h]⟩⟩
theorem delete_is {W : World} {base g c k : Nat} {l : List Int} (hA : OwnN W base 3 (some ⟨g, 0, none⟩) l.length c l) (hk : k < l.length) (hl : l.length ≤ 1000) : Calls Try.prog 126 #[.slice (some ⟨g, 0, none⟩) l.length c, .int .i64 (k : Int), .int .i64 ((k : Int) + 1)] W (fun en W' => en = .returned (.slice (some ⟨g, 0, none⟩) (l.eraseIdx k).length c) ∧ OwnN W' base 3 (some ⟨g, 0, none⟩) (l.eraseIdx k).length c (l.eraseIdx k) ∧ W.grownBy W' (some g)) := by
  obtain ⟨n, hn⟩ : ∃ n, l.length = n + 1 := ⟨l.length - 1, by omega⟩
  have he : (l.eraseIdx k).length = n := by rw [List.length_eraseIdx_of_lt hk, hn]; rfl
  rw [hn] at hA ⊢
  rw [he]
  exact delete_n base g n c l k W hA (by omega) (by omega)
theorem enc_none (m : RM) (A : Option Addr) (c : Nat) (W : World) (hv : m.ok = false) (hA : IsB W A m.b.length m.b) : Calls Try.prog 63 #[.agg (RMV m A c)] W (fun en W' => en = .returned (.tuple #[.slice none 0 0, .int .i64 1]) ∧ Below W.heap.size W W') := by
  refine (encode m A c W hA).mono ?_
  rintro en W' ⟨hb, ⟨-, h⟩ | ⟨h, -⟩⟩
  · exact ⟨h, hb⟩
  · rw [hv] at h
    cases h
theorem OwnN.kept_ap {w w' : World} {base g n c : Nat} {A : Option Addr} {l : List Int} (h : OwnN w base 3 A n c l) (hg : w.grownBy w' (some g)) (hne : ∀ a, A = some a → a.block ≠ g) : OwnN w' base 3 A n c l := by
  refine World.ownsRow.kept h hg ?_
  cases A with
  | none => exact .inl rfl
  | some a =>
    refine .inr ?_
    intro h2
    exact hne a rfl (by injection h2)
theorem index_mem {A : Option Addr} {n c : Nat} {l : List Int} {x : Int} {W : World} (hA : IsN W A n l) (hn : n ≤ 1000000) (hx : x ∈ l) : Calls Try.prog 125 #[.slice A n c, .int .i64 x] W (fun en W' => en = .returned (.int .i64 (l.idxOf x : Nat)) ∧ W' = W) :=
  (index_n A n c l x W hA hn).mono fun en W' ⟨h, _, h2⟩ => by
    obtain ⟨k, _, h3, h4⟩ := h hx
    exact ⟨by rw [h3]; exact h4, h2⟩
theorem index_not {A : Option Addr} {n c : Nat} {l : List Int} {x : Int} {W : World} (hA : IsN W A n l) (hn : n ≤ 1000000) (hx : x ∉ l) : Calls Try.prog 125 #[.slice A n c, .int .i64 x] W (fun en W' => en = .returned (.int .i64 (-1)) ∧ W' = W) :=
  (index_n A n c l x W hA hn).mono fun en W' ⟨_, h, h2⟩ => ⟨h hx, h2⟩
set_option maxRecDepth 100000 in
set_option maxHeartbeats 8000000 in
theorem rep_chk (e : UE) (A B : Option Addr) (c d : Nat) (n r : Int) (D : Option Addr) (dc : Nat) (b : List UInt8) (W : World) (hH : HeldU W e A c B d) (hD : IsB W D b.length b) (x : Int) (hx : uE e = x) (h0 : x ≠ 0) : Calls Try.prog 80 #[.agg (UEV e A c B d), .int .i64 n, .int .i64 r, .slice D b.length dc] W (RepP e n r b W) := by
  have HC := Lib.hid (show repE e n r b = x by unfold repE; rw [if_neg (by omega), hx])
  have HE := Lib.hid hx
  have H0 := Lib.hid h0
  have dx : (x != 0) = true := nt h0
  clear hx h0
  have hB1 := ((Below.refl W.heap.size W).alloc (Nat.le_refl _) (.cells (UEV e A c B d) 112)).alloc (by simp) (.cells ZU 112)
  have r1 := (Row.born W 112 (UEV e A c B d)).alloc (.cells ZU 112)
  have r2 : Row ((W.alloc (.cells (UEV e A c B d) 112)).alloc (.cells ZU 112)) (W.heap.size + 1) 112 ZU := by
    have h := Row.born (W.alloc (.cells (UEV e A c B d) 112)) 112 ZU
    have e1 : (W.alloc (.cells (UEV e A c B d) 112)).heap.size = W.heap.size + 1 := by simp
    rwa [e1] at h
  have hH1 := hH.below hB1
  go_enter Try.func80, Try.ntmps80
  go_upto_region 1 with (fail)
  change Code.wp _ _ _ _ ((W.alloc (.cells (UEV e A c B d) 112)).alloc (.cells ZU 112))
  generalize (W.alloc (.cells (UEV e A c B d) 112)).alloc (.cells ZU 112) = w1 at *
  have hl1 := r1.lt
  have hl2 := r2.lt
  go_wp2_with (first | ((with_reducible refine wp_load_g ?_ r1.range Try.underlying112 rfl (uev_info _ _ _ _ _) ?_ ?_); rfl; rfl) | (go_at_call 122; (with_reducible refine (check_is HE.out hH1).mono ?_); rintro en w2 ⟨rfl, hb2⟩; have r1 := r1.below hb2 hl1; have r2 := r2.below hb2 hl2; have hB2 := hB1.trans (hb2.mono hB1.size)) | ((with_reducible refine wp_row_store (L := ZU) r2 rfl zu_info zu_one ?_ ?_ ?_); rfl; rfl; intro w9 u9 r9))
  refine bodyPost_ret (results_c2 rfl rfl r9 Try.underlying112 rfl zu_info) rfl ?_
  exact rep_no HC.out H0.out (Upd.below hB2 u9 (by omega))
set_option maxRecDepth 100000 in
set_option maxHeartbeats 8000000 in
theorem rep_none (e : UE) (A B : Option Addr) (c d : Nat) (n r : Int) (D : Option Addr) (dc : Nat) (b : List UInt8) (W : World) (hH : HeldU W e A c B d) (hD : IsB W D b.length b) (hx : uE e = 0) (hm : n ∉ e.ss) : Calls Try.prog 80 #[.agg (UEV e A c B d), .int .i64 n, .int .i64 r, .slice D b.length dc] W (RepP e n r b W) := by
  have HC := Lib.hid (show repE e n r b = 17 by unfold repE; rw [if_pos hx, if_neg hm])
  have HE := Lib.hid hx
  have HX := Lib.hid hm
  have hbl := hH.bl
  clear hx hm
  have hB1 := ((Below.refl W.heap.size W).alloc (Nat.le_refl _) (.cells (UEV e A c B d) 112)).alloc (by simp) (.cells ZU 112)
  have r1 := (Row.born W 112 (UEV e A c B d)).alloc (.cells ZU 112)
  have r2 : Row ((W.alloc (.cells (UEV e A c B d) 112)).alloc (.cells ZU 112)) (W.heap.size + 1) 112 ZU := by
    have h := Row.born (W.alloc (.cells (UEV e A c B d) 112)) 112 ZU
    have e1 : (W.alloc (.cells (UEV e A c B d) 112)).heap.size = W.heap.size + 1 := by simp
    rwa [e1] at h
  have hH1 := hH.below hB1
  go_enter Try.func80, Try.ntmps80
  go_upto_region 1 with (fail)
  change Code.wp _ _ _ _ ((W.alloc (.cells (UEV e A c B d) 112)).alloc (.cells ZU 112))
  generalize (W.alloc (.cells (UEV e A c B d) 112)).alloc (.cells ZU 112) = w1 at *
  have hl1 := r1.lt
  have hl2 := r2.lt
  go_upto_region 4 with (first | ((with_reducible refine wp_load_g ?_ r1.range Try.underlying112 rfl (uev_info _ _ _ _ _) ?_ ?_); rfl; rfl) | (go_at_call 122; (with_reducible refine (check_is HE.out hH1).mono ?_); rintro en w2 ⟨rfl, hb2⟩; have r1 := r1.below hb2 hl1; have r2 := r2.below hb2 hl2; have hB2 := hB1.trans (hb2.mono hB1.size)))
  obtain ⟨-, -, c4, -⟩ := uev_cells r1
  have hH2 := hH.below hB2
  have hl1 := r1.lt
  have hl2 := r2.lt
  go_wp2_with (first | (go_at_call 125; (with_reducible refine (index_not hH2.b (by omega) HX.out).mono ?_); rintro en w' ⟨rfl, h9⟩; rw [h9]; clear h9) | ((with_reducible refine wp_row_store (L := ZU) r2 rfl zu_info zu_one ?_ ?_ ?_); rfl; rfl; intro w9 u9 r9))
  refine bodyPost_ret (results_c2 rfl rfl r9 Try.underlying112 rfl zu_info) rfl ?_
  exact rep_no HC.out (by omega) (Upd.below hB2 u9 (by omega))
set_option maxRecDepth 100000 in
set_option maxHeartbeats 8000000 in
theorem rep_inv (e : UE) (A B : Option Addr) (c d : Nat) (n r : Int) (D : Option Addr) (dc : Nat) (b : List UInt8) (W : World) (hH : HeldU W e A c B d) (hD : IsB W D b.length b) (hx : uE e = 0) (hm : n ∈ e.ss) (hv : (rpM n r b).ok = false) : Calls Try.prog 80 #[.agg (UEV e A c B d), .int .i64 n, .int .i64 r, .slice D b.length dc] W (RepP e n r b W) := by
  have HC := Lib.hid (show repE e n r b = 1 by unfold repE; rw [if_pos hx, if_pos hm, hv]; rfl)
  have HE := Lib.hid hx
  have HX := Lib.hid hm
  have HV := Lib.hid hv
  have hbl := hH.bl
  obtain ⟨k, hk⟩ : ∃ k, e.ss.idxOf n = k := ⟨_, rfl⟩
  have HK := Lib.hid hk
  have dk : decide ((k : Int) < 0) = false := df (by omega)
  clear hx hm hv hk
  have hB1 := ((Below.refl W.heap.size W).alloc (Nat.le_refl _) (.cells (UEV e A c B d) 112)).alloc (by simp) (.cells ZU 112)
  have r1 := (Row.born W 112 (UEV e A c B d)).alloc (.cells ZU 112)
  have r2 : Row ((W.alloc (.cells (UEV e A c B d) 112)).alloc (.cells ZU 112)) (W.heap.size + 1) 112 ZU := by
    have h := Row.born (W.alloc (.cells (UEV e A c B d) 112)) 112 ZU
    have e1 : (W.alloc (.cells (UEV e A c B d) 112)).heap.size = W.heap.size + 1 := by simp
    rwa [e1] at h
  have hH1 := hH.below hB1
  go_enter Try.func80, Try.ntmps80
  go_upto_region 1 with (fail)
  change Code.wp _ _ _ _ ((W.alloc (.cells (UEV e A c B d) 112)).alloc (.cells ZU 112))
  generalize (W.alloc (.cells (UEV e A c B d) 112)).alloc (.cells ZU 112) = w1 at *
  have hl1 := r1.lt
  have hl2 := r2.lt
  go_upto_region 4 with (first | ((with_reducible refine wp_load_g ?_ r1.range Try.underlying112 rfl (uev_info _ _ _ _ _) ?_ ?_); rfl; rfl) | (go_at_call 122; (with_reducible refine (check_is HE.out hH1).mono ?_); rintro en w2 ⟨rfl, hb2⟩; have r1 := r1.below hb2 hl1; have r2 := r2.below hb2 hl2; have hB2 := hB1.trans (hb2.mono hB1.size)))
  obtain ⟨-, -, c4, -⟩ := uev_cells r1
  have hH2 := hH.below hB2
  have hl1 := r1.lt
  have hl2 := r2.lt
  have hD2 : IsB w2 D (rpM n r b).b.length (rpM n r b).b := hD.below hB2
  go_wp2_with (first | (go_at_call 125; (with_reducible refine (index_mem hH2.b (by omega) HX.out).mono ?_); rintro en w' ⟨rfl, h9⟩; rw [h9, HK.out]; clear h9) | (go_at_call 63; refine (enc_none (rpM n r b) D dc _ HV.out hD2).mono ?_; rintro en w3 ⟨rfl, hb3⟩; have r2 := r2.below hb3 hl2) | ((with_reducible refine wp_row_store (L := ZU) r2 rfl zu_info zu_one ?_ ?_ ?_); rfl; rfl; intro w9 u9 r9))
  refine bodyPost_ret (results_c2 rfl rfl r9 Try.underlying112 rfl zu_info) rfl ?_
  exact rep_no HC.out (by omega) (Upd.below (hB2.trans (hb3.mono hB2.size)) u9 (by omega))
set_option maxRecDepth 100000 in
set_option maxHeartbeats 8000000 in
theorem rep_ok (e : UE) (A B : Option Addr) (c d : Nat) (n r : Int) (D : Option Addr) (dc : Nat) (b : List UInt8) (W : World) (hH : HeldU W e A c B d) (hD : IsB W D b.length b) (hx : uE e = 0) (hm : n ∈ e.ss) (hv : (rpM n r b).ok = true) : Calls Try.prog 80 #[.agg (UEV e A c B d), .int .i64 n, .int .i64 r, .slice D b.length dc] W (RepP e n r b W) := by
  have HC := Lib.hid (show repE e n r b = 0 by unfold repE; rw [if_pos hx, if_pos hm, if_pos hv])
  have HE := Lib.hid hx
  have HX := Lib.hid hm
  have HV := Lib.hid hv
  have hbl := hH.bl
  obtain ⟨k, hk⟩ : ∃ k, e.ss.idxOf n = k := ⟨_, rfl⟩
  have hkl : k < e.ss.length := by rw [← hk]; exact List.idxOf_lt_length_of_mem hm
  have HK := Lib.hid hk
  have HU := Lib.hid (show repU e n = { e with ss := e.ss.eraseIdx k } by unfold repU; rw [hk])
  have dk : decide ((k : Int) < 0) = false := df (by omega)
  have hkw : IntKind.i64.wrap ((k : Int) + 1) = (k : Int) + 1 := by rw [IntKind.wrap_i64]; omega
  clear hx hm hv hk
  have hB1 := ((Below.refl W.heap.size W).alloc (Nat.le_refl _) (.cells (UEV e A c B d) 112)).alloc (by simp) (.cells ZU 112)
  have r1 := (Row.born W 112 (UEV e A c B d)).alloc (.cells ZU 112)
  have r2 : Row ((W.alloc (.cells (UEV e A c B d) 112)).alloc (.cells ZU 112)) (W.heap.size + 1) 112 ZU := by
    have h := Row.born (W.alloc (.cells (UEV e A c B d) 112)) 112 ZU
    have e1 : (W.alloc (.cells (UEV e A c B d) 112)).heap.size = W.heap.size + 1 := by simp
    rwa [e1] at h
  have hH1 := hH.below hB1
  go_enter Try.func80, Try.ntmps80
  go_upto_region 1 with (fail)
  change Code.wp _ _ _ _ ((W.alloc (.cells (UEV e A c B d) 112)).alloc (.cells ZU 112))
  generalize (W.alloc (.cells (UEV e A c B d) 112)).alloc (.cells ZU 112) = w1 at *
  have hl1 := r1.lt
  have hl2 := r2.lt
  go_upto_region 4 with (first | ((with_reducible refine wp_load_g ?_ r1.range Try.underlying112 rfl (uev_info _ _ _ _ _) ?_ ?_); rfl; rfl) | (go_at_call 122; (with_reducible refine (check_is HE.out hH1).mono ?_); rintro en w2 ⟨rfl, hb2⟩; have r1 := r1.below hb2 hl1; have r2 := r2.below hb2 hl2; have hB2 := hB1.trans (hb2.mono hB1.size)))
  obtain ⟨-, -, c4, -⟩ := uev_cells r1
  have hH2 := hH.below hB2
  have hl1 := r1.lt
  have hl2 := r2.lt
  have hD2 : IsB w2 D (rpM n r b).b.length (rpM n r b).b := hD.below hB2
  go_upto_region 8 with (first | (go_at_call 125; (with_reducible refine (index_mem hH2.b (by omega) HX.out).mono ?_); rintro en w' ⟨rfl, h9⟩; rw [h9, HK.out]; clear h9) | (go_at_call 63; refine (encode_ok (rpM n r b) D dc _ HV.out hD2).mono ?_; rintro en w3 ⟨g3, l3, rfl, hg3, rfl, hI3, hb3⟩))
  have r1 := r1.below hb3 hl1
  have r2 := r2.below hb3 hl2
  have hB3 := hB2.trans (hb3.mono hB2.size)
  have hg3 : W.heap.size ≤ g3 := Nat.le_trans hB2.size hg3
  have hg32 : g3 ≠ W.heap.size + 1 := by have := hB2.size; have := hl2; omega
  have hl1 := r1.lt
  have hl2 := r2.lt
  have hH3 := hH.below hB3
  clear c4 hb2 hb3 hB2 hH2 hD2 hH1 hB1
  go_upto_region 11 with (first | ((with_reducible refine wp_load_g ?_ r1.range Try.underlying112 rfl (uev_info _ _ _ _ _) ?_ ?_); rfl; rfl) | (go_at_call 123; (with_reducible refine (cloneU e A B c d _ hH3).mono ?_); rintro en w5 ⟨A5, c5, B5, d5, rfl, ho5, hb5⟩; have r2 := r2.below hb5 hl2) | ((with_reducible refine wp_row_store (L := UEV e A5 c5 B5 d5) r2 rfl (uev_info _ _ _ _ _) (uev_one _ _ _ _ _) ?_ ?_ ?_); rfl; rfl; intro w6 u6 r6))
  have hI5 := hI3.below hb5
  have k6 := Keeps.upd (ts := [112]) u6 r2 (by simp)
  have ho6 := ho5.keeps k6 (by decide)
  have hB6 := Upd.below (hB3.trans (hb5.mono hB3.size)) u6 (by omega)
  have hI6 := isB_kept hI5 fun b' o e' h0 => u6.block b' (fun h => hg32 (by injection e' with e'; injection e' with e1 e2; omega))
  have hb3s : W.heap.size ≤ w3.heap.size := hB3.size
  have hg3s : (rpM n r b).by.length ≠ 0 → g3 < w3.heap.size := fun h => by
    obtain ⟨b', o', e', hlt, -⟩ := hI3.at_ (by omega)
    injection e' with e'
    injection e' with e1 e2
    omega
  clear r1 r2 u6 hb5 ho5 hB3 hH3 k6 hI5 hI3
  obtain ⟨g7, rfl, hg7, hg7s⟩ := OwnV.form (size := 1) ho6.b (by omega)
  have q4 : w6.cell? ⟨W.heap.size + 1, 4, none⟩ = some (.slice (some ⟨g7, 0, none⟩) e.ss.length d5) := r6.cell 4
  have HD6 := Lib.hid (delete_is ho6.b hkl hbl)
  go_upto_region 12 with (go_at_call 126; (with_reducible refine HD6.out.mono ?_); rintro en w7 ⟨rfl, ho7, hg⟩; have r7 := Keeps.row (Keeps.grown (ts := [3]) hg (fun k hk => OwnV.typed (size := 1) ho6.b k hk)) r6 (by decide); have q4 : w7.cell? ⟨W.heap.size + 1, 4, none⟩ = some (.slice (some ⟨g7, 0, none⟩) e.ss.length d5) := r7.cell 4; have f4 := r7.frozen 4)
  have kp7 := Keeps.grown (ts := [3]) hg (fun k hk => OwnV.typed (size := 1) ho6.b k hk)
  have ha7 := OwnN.kept_ap ho6.a hg (fun a ha => ho6.ap a ⟨g7, 0, none⟩ ha rfl)
  have hB7 := hB6.grown hg hB6.size (fun k hk => by injection hk with hk; omega)
  have hI7 := isB_kept hI6 fun b' o e' h0 => hg.block b' (by
    have h1 := hg3s (by omega)
    injection e' with e'
    injection e' with e1 e2
    have h2 := ho6.b.ge g7 rfl
    omega) (fun h => by
    have h1 := hg3s (by omega)
    injection e' with e'
    injection e' with e1 e2
    injection h with h
    omega)
  have ho8 : OwnU w7 w3.heap.size (repU e n) A5 c5 (some ⟨g7, 0, none⟩) d5 := by
    rw [HU.out]
    exact ⟨ha7, ho7, ho6.ap⟩
  have u8 := Upd.setCell w7 (W.heap.size + 1) 4 (.slice (some ⟨g7, 0, none⟩) (e.ss.eraseIdx k).length d5)
  have r8 := r7.set 4 (.slice (some ⟨g7, 0, none⟩) (e.ss.eraseIdx k).length d5)
  have e8 : (UEV e A5 c5 (some ⟨g7, 0, none⟩) d5).setIfInBounds 4 (.slice (some ⟨g7, 0, none⟩) (e.ss.eraseIdx k).length d5) = UEV (repU e n) A5 c5 (some ⟨g7, 0, none⟩) d5 := by rw [HU.out]; simp [UEV]
  rw [e8] at r8
  have ho8 := ho8.keeps (Keeps.upd (ts := [112]) u8 r7 (by simp)) (by decide)
  have hB8 := Upd.below hB7 u8 (by omega)
  have hI8 := isB_kept hI7 fun b' o e' h0 => u8.block b' (fun h => hg32 (by injection e' with e'; injection e' with e1 e2; omega))
  clear e8 q4 f4 r7 ho7 ha7 kp7 hg HD6 hI7 hI6 r6 ho6 hB7 hB6 u8
  generalize w7.setCell ⟨W.heap.size + 1, 4, none⟩ (.slice (some ⟨g7, 0, none⟩) (e.ss.eraseIdx k).length d5) = w8 at *
  go_wp2_with (first | ((with_reducible refine wp_load_g ?_ r8.range Try.underlying112 rfl (uev_info _ _ _ _ _) ?_ ?_); rfl; rfl) | ((with_reducible refine wp_row_store (L := UEV (repU e n) A5 c5 (some ⟨g7, 0, none⟩) d5) r8 rfl (uev_info _ _ _ _ _) (uev_one _ _ _ _ _) ?_ ?_ ?_); rfl; rfl; intro w9 u9 r9))
  refine bodyPost_ret (results_c2 rfl rfl r9 Try.underlying112 rfl (uev_info _ _ _ _ _)) rfl ?_
  have ho9 := ho8.keeps (Keeps.upd (ts := [112]) u9 r8 (by simp)) (by decide)
  refine ⟨Upd.below hB8 u9 (by omega), .inr ⟨HC.out, A5, c5, _, d5, g3, rfl, ⟨ho9.a.lower hb3s, ho9.b.lower hb3s, ho9.ap⟩, hg3, ?_⟩⟩
  exact isB_kept hI8 fun b' o e' h0 => u9.block b' (fun h => hg32 (by injection e' with e'; injection e' with e1 e2; omega))
theorem replyU (e : UE) (A B : Option Addr) (c d : Nat) (n r : Int) (D : Option Addr) (dc : Nat) (b : List UInt8) (W : World) (hH : HeldU W e A c B d) (hD : IsB W D b.length b) : Calls Try.prog 80 #[.agg (UEV e A c B d), .int .i64 n, .int .i64 r, .slice D b.length dc] W (RepP e n r b W) := by
  by_cases hx : uE e = 0
  · by_cases hm : n ∈ e.ss
    · cases hv : (rpM n r b).ok
      · exact rep_inv e A B c d n r D dc b W hH hD hx hm hv
      · exact rep_ok e A B c d n r D dc b W hH hD hx hm hv
    · exact rep_none e A B c d n r D dc b W hH hD hx hm
  · exact rep_chk e A B c d n r D dc b W hH hD _ rfl hx
end
end Go.Proofs.Ythjkhambmgepdaa
