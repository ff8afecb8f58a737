/- Image, in plain words: Parse undoes Build. -/
import Derived.Test.YtigbmlgllgcbhaaDoorIo
namespace Go.Proofs.YtigbmlgllgcbhaaDoor
open Go.RowKit
set_option linter.unusedVariables false
set_option linter.unusedSimpArgs false
theorem leN_fixB (v : Nat) : ∀ s, leN (fixB v s) = v % 256 ^ s
  | 0 => by simp [fixB, leN, Nat.mod_one]
  | s + 1 => by
    rw [fixB_snoc, leN_snoc, leN_fixB v s, fixB_len]
    have h : (UInt8.ofNat (v / 256 ^ s % 256)).toNat = v / 256 ^ s % 256 := by
      rw [UInt8.toNat_ofNat']
      exact Nat.mod_eq_of_lt (by have := Nat.mod_lt (v / 256 ^ s) (show 256 > 0 by decide); omega)
    rw [h, Nat.pow_succ, Nat.mod_mul, Nat.mul_comm (v / 256 ^ s % 256)]
theorem leN_fix {v s : Nat} (h : v < 256 ^ s) : leN (fixB v s) = v := by rw [leN_fixB, Nat.mod_eq_of_lt h]
theorem seg_of {X A B C : List UInt8} {o s : Nat} (h : X = A ++ (B ++ C)) (h1 : o = A.length) (h2 : s = B.length) : seg X o s = B := by
  subst h h1 h2
  simp [seg]
theorem getD_of {X A C : List UInt8} {x : UInt8} {o : Nat} (h : X = A ++ x :: C) (h1 : o = A.length) : X.getD o 0 = x := by
  subst h h1
  simp [List.getD]
theorem drop_of {X A C : List UInt8} {o : Nat} (h : X = A ++ C) (h1 : o = A.length) : X.drop o = C := by
  subst h h1
  simp
theorem imTab_app : ∀ (a b : List Md) (e : Nat), imTab e (a ++ b) = imTab e a ++ imTab (imFin e a) b
  | [], b, e => rfl
  | x :: a, b, e => by
    show imEnt x _ ++ imTab _ (a ++ b) = imEnt x _ ++ imTab _ a ++ imTab (imFin _ a) b
    rw [imTab_app a b, List.append_assoc]
theorem imDat_app : ∀ (a b : List Md) (e : Nat), imDat e (a ++ b) = imDat e a ++ imDat (imFin e a) b
  | [], b, e => rfl
  | x :: a, b, e => by
    show zer _ ++ x.data ++ imDat _ (a ++ b) = zer _ ++ x.data ++ imDat _ a ++ imDat (imFin _ a) b
    rw [imDat_app a b, List.append_assoc (zer _ ++ x.data)]
theorem imSize_ge (ms : List Md) : 16 + 48 * ms.length ≤ imSize ms := Nat.le_trans (imFin_ge ms _) (up64_ge _)
theorem imImg_len (ms : List Md) (h : ∀ m ∈ ms, m.name.length ≤ 24) : (imImg ms).length = imSize ms := by
  have := imSize_ge ms
  unfold imImg
  rw [List.length_append, imHead_len, imBody_len ms h]
  omega
theorem fstG_all : ∀ (r pre : List Md), fstG pre r = 0 → ∀ i (h : i < r.length), chkE r[i] (pre ++ r.take i) = 0
  | [], _, _, i, h => by simp at h
  | m :: r, pre, h0, i, h => by
    have h1 : (if chkE m pre = 0 then fstG (pre ++ [m]) r else chkE m pre) = 0 := h0
    by_cases hc : chkE m pre = 0
    · rw [if_pos hc] at h1
      cases i with
      | zero => simpa using hc
      | succ i =>
        have := fstG_all r (pre ++ [m]) h1 i (by simpa using h)
        simpa using this
    · rw [if_neg hc] at h1
      exact absurd h1 hc
theorem bld_ok {ms : List Md} (h : bldE ms = 0) : ms.length ≤ 64 ∧ fstE ms = 0 ∧ imSize ms ≤ 16777216 := by
  unfold bldE at h
  split at h
  · omega
  · split at h
    · next h2 => exact absurd h h2
    · next h2 =>
      split at h
      · omega
      · exact ⟨by omega, by omega, by omega⟩
theorem chk_all {m : Md} {pre : List Md} (h : chkE m pre = 0) : nameB m.name = true ∧ (1 ≤ m.kind ∧ m.kind ≤ 3) ∧ badW m = false ∧ (m.kind = 1 → m.data.length ≠ 0 ∧ m.data.length % 8 = 0) ∧ 0 ≤ m.entry ∧ m.entry < entN m ∧ fndB pre m.name m.width = false := by
  unfold chkE at h
  split at h
  · next h0 =>
    split at h
    · omega
    · next h1 =>
      split at h
      · omega
      · next h2 =>
        split at h
        · omega
        · next h3 =>
          split at h
          · omega
          · next h4 =>
            refine ⟨h0, by omega, ?_, fun hk => ?_, by omega, by omega, by simpa using h4⟩
            · cases hb : badW m
              · rfl
              · exact absurd (.inr (.inr hb)) h1
            · exact ⟨fun h5 => h2 ⟨hk, .inl h5⟩, Decidable.byContradiction fun h5 => h2 ⟨hk, .inr h5⟩⟩
  · omega
theorem badW_ok {m : Md} (h : badW m = false) : m.width = 0 ∨ m.width = 32 ∨ m.width = 39 := by
  unfold badW at h
  split at h
  · exact .inl (by simpa using h)
  · simp at h; omega
theorem wrd0 : wrd 0 = false := by decide
theorem name_nz {bs : List UInt8} (h : nameB bs = true) : bs.length ≤ 24 ∧ bs ≠ [] ∧ ∀ y ∈ bs, y ≠ 0 := by
  unfold nameB at h
  rw [Bool.and_eq_true] at h
  obtain ⟨h1, h2⟩ := h
  refine ⟨by simpa using h2, ?_, ?_⟩
  · rintro rfl; simp [wordB] at h1
  · cases bs with
    | nil => simp
    | cons x r =>
      simp only [wordB, Bool.and_eq_true, List.all_eq_true] at h1
      intro y hy h0
      subst h0
      rcases List.mem_cons.mp hy with rfl | hy
      · have := h1.1; revert this; decide
      · have := h1.2 _ hy; rw [wrd0] at this; cases this
theorem trim_zer {nm : List UInt8} (h : ∀ y ∈ nm, y ≠ 0) : ∀ r, Lib.trimRightB (nm ++ zer r) 0 = nm
  | 0 => by
    rw [show zer 0 = [] from rfl, List.append_nil]
    unfold Lib.trimRightB
    rcases List.eq_nil_or_concat nm with rfl | ⟨a, x, rfl⟩
    · rfl
    · have hx : x ≠ 0 := h x (by simp)
      rw [List.concat_eq_append, List.reverse_append]
      simp [List.dropWhile_cons, hx]
  | r + 1 => by
    have ih := trim_zer h r
    have e : nm ++ zer (r + 1) = (nm ++ zer r) ++ [0] := by rw [zer_add, ← List.append_assoc]; rfl
    rw [e]
    unfold Lib.trimRightB at ih ⊢
    rw [List.reverse_append]
    have e2 : ([0] : List UInt8).reverse = [0] := rfl
    rw [e2, List.singleton_append, List.dropWhile_cons]
    exact ih
theorem imFin_take (ms : List Md) (e k : Nat) (h : k < ms.length) : up64 (imFin e (ms.take k)) + (ms[k]).data.length ≤ imFin e ms := by
  have h1 : ms = ms.take k ++ (ms[k] :: ms.drop (k + 1)) := by simp
  have h2 : imFin e ms = imFin e (ms.take k ++ (ms[k] :: ms.drop (k + 1))) := by rw [← h1]
  rw [h2, imFin_app]
  exact imFin_ge (ms.drop (k + 1)) (up64 (imFin e (ms.take k)) + (ms[k]).data.length)
/-- An entry's place in the image. -/
theorem img_ent (ms : List Md) (hn : ∀ m ∈ ms, m.name.length ≤ 24) (k : Nat) (h : k < ms.length) : ∃ P Q, imImg ms = P ++ (imEnt ms[k] (up64 (imFin (16 + 48 * ms.length) (ms.take k))) ++ Q) ∧ P.length = 16 + 48 * k := by
  have h1 : ms = ms.take k ++ (ms[k] :: ms.drop (k + 1)) := by simp
  obtain ⟨E, hE⟩ : ∃ E, 16 + 48 * ms.length = E := ⟨_, rfl⟩
  have h2 : imTab E ms = imTab E (ms.take k ++ (ms[k] :: ms.drop (k + 1))) := by rw [← h1]
  rw [imTab_app] at h2
  refine ⟨imHead ms ++ imTab E (ms.take k), imTab (up64 (imFin E (ms.take k)) + (ms[k]).data.length) (ms.drop (k + 1)) ++ (imDat E ms ++ zer (imSize ms - imFin E ms)), ?_, ?_⟩
  · unfold imImg imBody
    rw [hE, h2]
    simp only [imTab, List.append_assoc]
  · rw [List.length_append, imHead_len, imTab_len _ _ (fun m hm => hn m (List.mem_of_mem_take hm)), List.length_take, Nat.min_eq_left (by omega)]
/-- A module's data's place. -/
theorem img_dat (ms : List Md) (hn : ∀ m ∈ ms, m.name.length ≤ 24) (k : Nat) (h : k < ms.length) : ∃ P Q, imImg ms = P ++ ((ms[k]).data ++ Q) ∧ P.length = up64 (imFin (16 + 48 * ms.length) (ms.take k)) := by
  have h1 : ms = ms.take k ++ (ms[k] :: ms.drop (k + 1)) := by simp
  obtain ⟨E, hE⟩ : ∃ E, 16 + 48 * ms.length = E := ⟨_, rfl⟩
  obtain ⟨F, hF⟩ : ∃ F, imFin E (ms.take k) = F := ⟨_, rfl⟩
  have h2 : imDat E ms = imDat E (ms.take k ++ (ms[k] :: ms.drop (k + 1))) := by rw [← h1]
  rw [imDat_app, hF] at h2
  rw [hE, hF]
  have hge := imFin_ge (ms.take k) E
  rw [hF] at hge
  have hu := up64_ge F
  refine ⟨imHead ms ++ imTab E ms ++ imDat E (ms.take k) ++ zer (up64 F - F), imDat (up64 F + (ms[k]).data.length) (ms.drop (k + 1)) ++ zer (imSize ms - imFin E ms), ?_, ?_⟩
  · unfold imImg imBody
    rw [hE, h2]
    simp only [imDat, List.append_assoc]
  · rw [List.length_append, List.length_append, List.length_append, imHead_len, imTab_len _ _ hn, imDat_len, zer_len, hF]
    omega
theorem img_hdr {ms : List Md} (hn : ∀ m ∈ ms, m.name.length ≤ 24) (hs : imSize ms ≤ 16777216) (h64 : ms.length ≤ 64) : hdrE (imImg ms) = 0 ∧ cntN (imImg ms) = ms.length := by
  have hl := imImg_len ms hn
  have hge := imSize_ge ms
  obtain ⟨sz, hsz⟩ : ∃ sz, imSize ms = sz := ⟨_, rfl⟩
  obtain ⟨B, hB⟩ : ∃ B, imBody ms = B := ⟨_, rfl⟩
  have hX : imImg ms = [77, 75, 66, 73] ++ (fixB 1 2 ++ (fixB ms.length 2 ++ (fixB sz 4 ++ (fixB (crc B) 4 ++ B)))) := by
    unfold imImg imHead
    rw [hsz, hB]
    simp only [List.append_assoc]
  rw [hsz] at hl hge hs
  obtain ⟨X, hXX⟩ : ∃ X, imImg ms = X := ⟨_, rfl⟩
  rw [hXX] at hX hl ⊢
  have s4 : seg X 4 2 = fixB 1 2 := seg_of hX rfl (by rw [fixB_len])
  have s6 : seg X 6 2 = fixB ms.length 2 := seg_of (A := [77, 75, 66, 73] ++ fixB 1 2) (by rw [hX]; simp only [List.append_assoc]; rfl) (by simp [fixB_len]) (by rw [fixB_len])
  have s8 : seg X 8 4 = fixB sz 4 := seg_of (A := [77, 75, 66, 73] ++ fixB 1 2 ++ fixB ms.length 2) (by rw [hX]; simp only [List.append_assoc]; rfl) (by simp [fixB_len]) (by rw [fixB_len])
  have s12 : seg X 12 4 = fixB (crc B) 4 := seg_of (A := [77, 75, 66, 73] ++ fixB 1 2 ++ fixB ms.length 2 ++ fixB sz 4) (by rw [hX]; simp only [List.append_assoc]; rfl) (by simp [fixB_len]) (by rw [fixB_len])
  have s16 : X.drop 16 = B := drop_of (A := [77, 75, 66, 73] ++ fixB 1 2 ++ fixB ms.length 2 ++ fixB sz 4 ++ fixB (crc B) 4) (by rw [hX]; simp only [List.append_assoc]) (by simp [fixB_len])
  have t4 : X.take 4 = [77, 75, 66, 73] := by rw [hX]; rfl
  have v4 : leN (seg X 4 2) = 1 := by rw [s4, leN_fix (by decide)]
  have v8 : leN (seg X 8 4) = sz := by rw [s8, leN_fix (Nat.lt_of_le_of_lt hs (by decide))]
  have v12 : leN (seg X 12 4) = crc B := by rw [s12, leN_fix (Nat.lt_of_lt_of_le (crc_lt2 B) (by decide))]
  have v6 : leN (seg X 6 2) = ms.length := by rw [s6, leN_fix (Nat.lt_of_le_of_lt h64 (by decide))]
  refine ⟨?_, v6⟩
  unfold hdrE
  rw [v4, v8, v12, t4, s16, if_neg (by omega), if_neg (by simp), if_neg (by omega), if_neg (by omega), if_neg (by omega), if_neg (by omega), if_neg (by omega)]
theorem byte_back {x : Int} (h0 : 0 ≤ x) (h : x < 256) : ((UInt8.ofNat x.toNat).toNat : Int) = x := by
  rw [UInt8.toNat_ofNat', Nat.mod_eq_of_lt (by show x.toNat < 256; omega)]
  omega
theorem rdM_img {ms : List Md} (h0 : bldE ms = 0) (hn : ∀ m ∈ ms, m.name.length ≤ 24) (k : Nat) (h : k < ms.length) : rdOk (imImg ms) k ∧ rdM (imImg ms) k = ms[k] := by
  obtain ⟨h64, hf, hs⟩ := bld_ok h0
  have hck := fstG_all ms [] hf k h
  obtain ⟨cn, ck, cw, ca, ce0, ce1, cf⟩ := chk_all hck
  obtain ⟨P, Q, hX, hP⟩ := img_ent ms hn k h
  obtain ⟨P', Q', hX', hP'⟩ := img_dat ms hn k h
  have hl := imImg_len ms hn
  have hft := imFin_take ms (16 + 48 * ms.length) k h
  have hfs : imFin (16 + 48 * ms.length) ms ≤ imSize ms := up64_ge _
  obtain ⟨off, ho⟩ : ∃ off, up64 (imFin (16 + 48 * ms.length) (ms.take k)) = off := ⟨_, rfl⟩
  obtain ⟨X, hXX⟩ : ∃ X, imImg ms = X := ⟨_, rfl⟩
  obtain ⟨m, hm⟩ : ∃ m, ms[k] = m := ⟨_, rfl⟩
  rw [hXX, ho, hm] at hX
  rw [hXX, hm] at hX'
  rw [ho] at hP' hft
  rw [hm] at cn ck cw ca ce0 ce1 hft
  rw [hXX] at hl ⊢
  rw [hm]
  obtain ⟨nl, nn, nz⟩ := name_nz cn
  have hw := badW_ok cw
  have hent : m.entry < 4294967296 := by
    unfold entN at ce1
    split at ce1 <;> omega
  unfold imEnt at hX
  have e0 : seg X (16 + 48 * k) 24 = m.name ++ zer (24 - m.name.length) := seg_of (A := P) (by rw [hX]; simp only [List.append_assoc]; rfl) hP.symm (by rw [List.length_append, zer_len]; omega)
  have e24 : X.getD (16 + 48 * k + 24) 0 = UInt8.ofNat m.kind.toNat := getD_of (A := P ++ (m.name ++ zer (24 - m.name.length))) (by rw [hX]; simp only [List.append_assoc, List.cons_append]; rfl) (by simp only [List.length_append, zer_len, hP]; omega)
  have e25 : X.getD (16 + 48 * k + 25) 0 = UInt8.ofNat m.width.toNat := getD_of (A := P ++ (m.name ++ zer (24 - m.name.length) ++ [UInt8.ofNat m.kind.toNat])) (by rw [hX]; simp only [List.append_assoc, List.cons_append, List.nil_append]; rfl) (by simp only [List.length_append, List.length_singleton, zer_len, hP]; omega)
  have e28 : seg X (16 + 48 * k + 28) 4 = fixB m.entry.toNat 4 := seg_of (A := P ++ (m.name ++ zer (24 - m.name.length) ++ [UInt8.ofNat m.kind.toNat, UInt8.ofNat m.width.toNat, 0, 0])) (by rw [hX]; simp only [List.append_assoc]; rfl) (by simp only [List.length_append, List.length_cons, List.length_nil, zer_len, hP]; omega) (by rw [fixB_len])
  have e32 : seg X (16 + 48 * k + 32) 4 = fixB off 4 := seg_of (A := P ++ (m.name ++ zer (24 - m.name.length) ++ [UInt8.ofNat m.kind.toNat, UInt8.ofNat m.width.toNat, 0, 0] ++ fixB m.entry.toNat 4)) (by rw [hX]; simp only [List.append_assoc]; rfl) (by simp only [List.length_append, List.length_cons, List.length_nil, zer_len, fixB_len, hP]; omega) (by rw [fixB_len])
  have e36 : seg X (16 + 48 * k + 36) 4 = fixB m.data.length 4 := seg_of (A := P ++ (m.name ++ zer (24 - m.name.length) ++ [UInt8.ofNat m.kind.toNat, UInt8.ofNat m.width.toNat, 0, 0] ++ fixB m.entry.toNat 4 ++ fixB off 4)) (by rw [hX]; simp only [List.append_assoc]; rfl) (by simp only [List.length_append, List.length_cons, List.length_nil, zer_len, fixB_len, hP]; omega) (by rw [fixB_len])
  have vo : offN X k = off := by unfold offN; rw [e32, leN_fix (by show off < 4294967296; omega)]
  have vs : sizN X k = m.data.length := by unfold sizN; rw [e36, leN_fix (by show m.data.length < 4294967296; omega)]
  have ve : leN (seg X (16 + 48 * k + 28) 4) = m.entry.toNat := by rw [e28, leN_fix (by show m.entry.toNat < 4294967296; omega)]
  have ed : seg X off m.data.length = m.data := seg_of hX' hP'.symm rfl
  refine ⟨⟨by rw [vo]; omega, by rw [vo, vs]; omega⟩, ?_⟩
  unfold rdM
  rw [vo, vs, ve, ed, e0, e24, e25, trim_zer nz, byte_back (by omega) (by omega), byte_back (by omega) (by omega), Int.toNat_of_nonneg ce0]
theorem bld_names {ms : List Md} (h : bldE ms = 0) : ∀ m ∈ ms, m.name.length ≤ 24 := by
  intro m hm
  obtain ⟨h64, hf, hs⟩ := bld_ok h
  obtain ⟨k, hk, rfl⟩ := List.mem_iff_getElem.mp hm
  exact (name_nz (chk_all (fstG_all ms [] hf k hk)).1).1
/-- Parse undoes Build. -/
theorem par_img {ms : List Md} (h : bldE ms = 0) : parE (imImg ms) = 0 ∧ cntN (imImg ms) = ms.length ∧ rdMs (imImg ms) ms.length = ms := by
  have hn := bld_names h
  obtain ⟨h64, hf, hs⟩ := bld_ok h
  obtain ⟨h1, h2⟩ := img_hdr hn hs h64
  have h3 : rdMs (imImg ms) ms.length = ms := by
    apply List.ext_getElem (by rw [rdMs_len])
    intro k hk hk2
    simp only [rdMs, List.getElem_map, List.getElem_range]
    exact (rdM_img h hn k hk2).2
  refine ⟨?_, h2, h3⟩
  unfold parE
  rw [if_neg (by rw [h1]; exact fun h => h rfl), h2, if_neg (by rw [imImg_len ms hn]; have := imSize_ge ms; omega), if_neg (by rintro ⟨k, hk, hno⟩; exact hno (rdM_img h hn k hk).1), h3, if_neg (by rw [h]; simp)]
/-- Build undoes Parse. -/
theorem par_back {bs : List UInt8} (h : parE bs = 0) : bldE (rdMs bs (cntN bs)) = 0 ∧ imImg (rdMs bs (cntN bs)) = bs ∧ hdrE bs = 0 ∧ cntN bs ≤ 64 ∧ 16 + 48 * cntN bs ≤ bs.length ∧ ∀ k, k < cntN bs → rdOk bs k := by
  unfold parE at h
  split at h
  · next h1 => exact absurd h h1
  · next h1 =>
    split at h
    · omega
    · next h2 =>
      split at h
      · omega
      · next h3 =>
        split at h
        · omega
        · next h4 =>
          refine ⟨Decidable.byContradiction fun h5 => h4 (.inl h5), ?_, by omega, by omega, by omega, fun k hk => Decidable.byContradiction fun h5 => h3 ⟨k, hk, h5⟩⟩
          exact Classical.byContradiction fun h5 => h4 (.inr h5)
end Go.Proofs.YtigbmlgllgcbhaaDoor
