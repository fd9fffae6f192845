/- Parts of the proof of ErrandGets, in order. No conditions but those that each theorem states. -/
import Derived.Test.YtlhnjkekjbbhcaaGreatDoorYErrandGets0
import Derived.Lib.ItoaNum
import Derived.Lib.SlTrimSet
import Derived.Test.YtlhnjkekjbbhcaaGreatDoorYErrandGets6
set_option linter.unusedSimpArgs false
set_option linter.unusedVariables false
namespace Go.Proofs.YtlhnjkekjbbhcaaGreatDoor
open Go.RowKit Go.Shelf
def bodyT (K : List Fld) : List UInt8 := K.flatMap fun f => printF f ++ [13, 10]
def headT (st : List UInt8) (K : List Fld) : List UInt8 := st ++ [13, 10] ++ bodyT K ++ [13, 10]
def clean (l : List UInt8) : Prop := ∀ b ∈ l, b ≠ 13 ∧ b ≠ 10
theorem tchar_clean {b : UInt8} (h : tchar b = true) : b ≠ 13 ∧ b ≠ 10 ∧ b ≠ 58 := by
  refine ⟨?_, ?_, ?_⟩ <;> (rintro rfl; revert h; decide)
theorem textB_clean {b : UInt8} (h : textB b = true) : b ≠ 13 ∧ b ≠ 10 := by
  refine ⟨?_, ?_⟩ <;> (rintro rfl; revert h; decide)
theorem good_parts {f : Fld} (h : goodF f = true) : isTok f.name = true ∧ isTxt f.value = true ∧ trimW f.value = f.value := by
  unfold goodF at h; simp only [Bool.and_eq_true, beq_iff_eq] at h; exact ⟨h.1.1, h.1.2, h.2⟩
theorem isTok_parts {l : List UInt8} (h : isTok l = true) : (∀ b ∈ l, tchar b = true) ∧ l ≠ [] := by
  unfold isTok at h; simp only [Bool.and_eq_true, List.all_eq_true] at h; exact ⟨h.1, by intro e; subst e; simp at h⟩
theorem print_clean {f : Fld} (h : goodF f = true) : clean (printF f) := by
  obtain ⟨h1, h2, _⟩ := good_parts h; intro b hb; unfold printF at hb; simp only [List.mem_append, List.mem_cons, List.mem_nil_iff, or_false] at hb; rcases hb with (hb | rfl | rfl) | hb
  · have := tchar_clean ((isTok_parts h1).1 b hb); exact ⟨this.1, this.2.1⟩
  · decide
  · decide
  · unfold isTxt at h2; exact textB_clean (List.all_eq_true.1 h2 b hb)
theorem indexByte_first {x r : List UInt8} {c : UInt8} (h : ∀ b ∈ x, b ≠ c) : Lib.indexByte (x ++ c :: r) c = x.length := by
  refine indexByte_at (by simp) fun j hj => ?_
  rw [List.getElem?_append_left hj]; intro e; exact h c (List.mem_of_getElem? e) rfl
theorem next_line (pre x rest : List UInt8) (hx : clean x) (h : pre.length + x.length + 2 ≤ 4096) :
    nextM (pre ++ (x ++ [13, 10] ++ rest)) pre.length = (x, pre.length + (x.length + 2), 0) := by
  have hseen : ∃ r, seenM (pre ++ (x ++ [13, 10] ++ rest)) pre.length = (x ++ [13]) ++ 10 :: r := by
    unfold seenM; rw [List.take_append, List.drop_append]; have e1 : (pre.take 4096) = pre := List.take_of_length_le (by omega); rw [e1, List.drop_length, List.nil_append, Nat.sub_self, List.drop_zero]; have e3 : x ++ [13, 10] ++ rest = (x ++ [13]) ++ 10 :: rest := by simp
    rw [e3, List.take_append, List.take_of_length_le (by simp; omega)]; obtain ⟨m, hm⟩ : ∃ m, 4096 - pre.length - (x ++ [13]).length = m + 1 := ⟨4096 - pre.length - (x ++ [13]).length - 1, by simp; omega⟩
    rw [hm, List.take_succ_cons]; exact ⟨_, rfl⟩
  obtain ⟨r, hr⟩ := hseen
  have hi : Lib.indexByte (seenM (pre ++ (x ++ [13, 10] ++ rest)) pre.length) 10 = ((x.length + 1 : Nat) : Int) := by
    rw [hr, indexByte_first (x := x ++ [13])]
    · simp
    · intro b hb; simp only [List.mem_append, List.mem_singleton] at hb; rcases hb with hb | rfl
      · exact (hx b hb).2
      · decide
  have ht : (seenM (pre ++ (x ++ [13, 10] ++ rest)) pre.length).take (x.length + 1 + 1) = x ++ [13, 10] := by
    rw [hr, List.take_append, List.take_of_length_le (by simp)]; simp
  have hl : lineM (x ++ [13, 10]) = some x := by
    unfold lineM; have hs : Lib.hasSuffix (x ++ [13, 10]) [13, 10] = true := by unfold Lib.hasSuffix; simp
    have htr : Lib.trimSuffix (x ++ [13, 10]) [13, 10] = x := by
      unfold Lib.trimSuffix; rw [if_pos hs]; simp
    rw [htr, if_pos]; refine ⟨hs, ?_⟩; rw [indexByte_no]
    · omega
    · intro j hj; exact (hx 13 (List.mem_of_getElem? hj)).1 rfl
  unfold nextM; rw [hi, if_neg (by omega), Int.toNat_natCast, ht, hl]
theorem trim_blank (v : List UInt8) : trimW (32 :: v) = trimW v := by
  rw [trimW_eq, trimL_cons, if_pos (.inl rfl), ← trimW_eq]
theorem parse_print {f : Fld} (h : goodF f = true) : parseF (printF f) = some f := by
  obtain ⟨h1, h2, h3⟩ := good_parts h; obtain ⟨ht, hne⟩ := isTok_parts h1
  have hi : Lib.indexByte (printF f) 58 = f.name.length := by
    have e : printF f = f.name ++ 58 :: (32 :: f.value) := by simp [printF]
    rw [e]; exact indexByte_first fun b hb => (tchar_clean (ht b hb)).2.2
  have e1 : (printF f).take f.name.length = f.name := by simp [printF]
  have e2 : (printF f).drop (f.name.length + 1) = 32 :: f.value := by simp [printF]
  have h4 : isTxt (32 :: f.value) = true := by
    unfold isTxt at *; rw [List.all_cons, h2]; rfl
  rw [parseF_eq, hi, Int.toNat_natCast, e1, e2, if_pos ⟨by omega, h1, h4⟩, trim_blank, h3]
theorem print_ne (f : Fld) : printF f ≠ [] := by simp [printF]
theorem loop_body (st : List UInt8) : ∀ (K : List Fld) (pre : List UInt8) (F : List Fld) (k : Nat) (rest : List UInt8), (∀ f ∈ K, goodF f = true) → F.length + K.length ≤ 32 → pre.length + (bodyT K).length + 2 ≤ 4096 → K.length < k →
    loopM (pre ++ (bodyT K ++ ([13, 10] ++ rest))) st k F pre.length = ⟨st, F ++ K, pre.length + (bodyT K).length + 2, 0⟩
  | [], pre, F, k, rest, _, _, h, hk => by
    obtain ⟨k', rfl⟩ : ∃ k', k = k' + 1 := ⟨k - 1, by simp at hk; omega⟩
    have hn := next_line pre [] rest (by intro b hb; cases hb) (by simpa [bodyT] using h); simp only [bodyT, List.flatMap_nil, List.nil_append, List.length_nil, Nat.add_zero, Nat.zero_add] at *; unfold loopM; rw [hn]; simp
  | f :: K, pre, F, k, rest, hg, hF, h, hk => by
    obtain ⟨k', rfl⟩ : ∃ k', k = k' + 1 := ⟨k - 1, by simp at hk; omega⟩
    have hgf := hg f (by simp); have hb : bodyT (f :: K) = printF f ++ [13, 10] ++ bodyT K := by simp [bodyT]
    have hlen : (bodyT (f :: K)).length = (printF f).length + 2 + (bodyT K).length := by rw [hb]; simp; omega
    have hn := next_line pre (printF f) (bodyT K ++ ([13, 10] ++ rest)) (print_clean hgf) (by omega); have he : pre ++ (bodyT (f :: K) ++ ([13, 10] ++ rest)) = pre ++ (printF f ++ [13, 10] ++ (bodyT K ++ ([13, 10] ++ rest))) := by rw [hb]; simp
    have ha : addM F (printF f) = (F ++ [f], 0) := by
      unfold addM; rw [parse_print hgf]; simp at hF; simp only; rw [if_neg (by omega)]
    have ih := loop_body st K (pre ++ (printF f ++ [13, 10])) (F ++ [f]) k' rest (fun x hx => hg x (by simp [hx])) (by simp at hF ⊢; omega) (by simp; omega) (by simp at hk; omega); rw [he]; unfold loopM; rw [hn]; simp only [ne_eq, not_true_eq_false, if_false, print_ne, ha]; have e2 : pre ++ (printF f ++ [13, 10] ++ (bodyT K ++ ([13, 10] ++ rest))) = pre ++ (printF f ++ [13, 10]) ++ (bodyT K ++ ([13, 10] ++ rest)) := by simp
    have e3 : pre.length + ((printF f).length + 2) = (pre ++ (printF f ++ [13, 10])).length := by simp
    rw [e2, e3, ih]; simp [hlen]; omega
theorem split_head (st : List UInt8) (K : List Fld) (rest : List UInt8) (hst : clean st) (h0 : st ≠ []) (h1 : st.length ≤ 1024) (hg : ∀ f ∈ K, goodF f = true) (h32 : K.length ≤ 32) (hl : (headT st K).length ≤ 4096) :
    splitM (headT st K ++ rest) = ⟨st, K, (headT st K).length, 0⟩ := by
  have hlen : (headT st K).length = st.length + 2 + (bodyT K).length + 2 := by simp [headT]; omega
  have he : headT st K ++ rest = [] ++ (st ++ [13, 10] ++ (bodyT K ++ ([13, 10] ++ rest))) := by simp [headT]
  have hn := next_line [] st (bodyT K ++ ([13, 10] ++ rest)) hst (by simp; omega); have hlo := loop_body st K (st ++ [13, 10]) [] 4097 rest hg (by simpa using h32) (by simp; omega) (by omega)
  have hr : readM (headT st K ++ rest) = ⟨st, K, (headT st K).length, 0⟩ := by
    rw [he]; unfold readM; rw [show (0 : Nat) = ([] : List UInt8).length from rfl, hn]; have hb : beginE st = 0 := by unfold beginE; rw [if_neg h0, if_neg (by omega)]
    simp only [ne_eq, not_true_eq_false, if_false, hb, List.nil_append, List.length_nil, Nat.zero_add]; have e2 : st ++ [13, 10] ++ (bodyT K ++ ([13, 10] ++ rest)) = (st ++ [13, 10]) ++ (bodyT K ++ ([13, 10] ++ rest)) := rfl; have e3 : st.length + 2 = (st ++ [13, 10]).length := by simp
    rw [e3, hlo, hlen]; simp
  unfold splitM; rw [hr]; simp
theorem loop_n_le (s st : List UInt8) : ∀ (k : Nat) (F : List Fld) (n : Nat), n ≤ s.length → n ≤ 4096 → (loopM s st k F n).n ≤ s.length
  | 0, F, n, h, _ => h
  | k + 1, F, n, h, h2 => by
    have hb := next_bounds h h2; unfold loopM; by_cases h4 : (nextM s n).2.2 ≠ 0
    · rw [if_pos h4]; exact hb.1
    · rw [if_neg h4]; by_cases h5 : (nextM s n).1 = []
      · rw [if_pos h5]; exact hb.1
      · rw [if_neg h5]; by_cases h6 : (addM F (nextM s n).1).2 ≠ 0
        · rw [if_pos h6]; exact hb.1
        · rw [if_neg h6]; exact loop_n_le s st k _ _ hb.1 hb.2.1
theorem split_n_le (s : List UInt8) : (splitM s).n ≤ s.length := by
  have hb := next_bounds (s := s) (n := 0) (Nat.zero_le _) (Nat.zero_le _)
  have hr : (readM s).n ≤ s.length := by
    unfold readM; by_cases h4 : (nextM s 0).2.2 ≠ 0
    · rw [if_pos h4]; exact hb.1
    · rw [if_neg h4]; by_cases h6 : beginE (nextM s 0).1 ≠ 0
      · rw [if_pos h6]; exact hb.1
      · rw [if_neg h6]; exact loop_n_le s _ _ _ _ hb.1 hb.2.1
  unfold splitM
  split
  · simp
  · exact hr
end Go.Proofs.YtlhnjkekjbbhcaaGreatDoor
namespace Go.Proofs.YtlhnjkekjbbhcaaGreatDoor
open Go.RowKit
def digV (b : UInt8) : Int := if 48 ≤ b.toNat ∧ b.toNat ≤ 57 then (b.toNat : Int) - 48 else if 97 ≤ b.toNat ∧ b.toNat ≤ 102 then (b.toNat : Int) - 97 + 10 else if 65 ≤ b.toNat ∧ b.toNat ≤ 70 then (b.toNat : Int) - 65 + 10 else 0
def digOk (b : UInt8) : Bool := decide (48 ≤ b.toNat ∧ b.toNat ≤ 57) || decide (97 ≤ b.toNat ∧ b.toNat ≤ 102) || decide (65 ≤ b.toNat ∧ b.toNat ≤ 70)
theorem digV_range (b : UInt8) : 0 ≤ digV b ∧ digV b ≤ 15 := by
  unfold digV
  split
  · omega
  · split
    · omega
    · split <;> omega
theorem dig_ret {a c : Int} {b d : Bool} (h : a = c) (h2 : b = d) : Ending.returned (.tuple #[.int .i64 a, .bool b]) = .returned (.tuple #[.int .i64 c, .bool d]) := by rw [h, h2]
set_option maxRecDepth 100000 in
set_option maxHeartbeats 1000000 in
theorem hexa_digit (b : UInt8) (w : World) :
    Calls Tryz.prog 239 #[.int .u8 b.toNat] w fun e w' => e = .returned (.tuple #[.int .i64 (digV b), .bool (digOk b)]) ∧ w = w' := by
  have hb := u8_nat b; have hV : digV b = if 48 ≤ b.toNat ∧ b.toNat ≤ 57 then (b.toNat : Int) - 48 else if 97 ≤ b.toNat ∧ b.toNat ≤ 102 then (b.toNat : Int) - 97 + 10 else if 65 ≤ b.toNat ∧ b.toNat ≤ 70 then (b.toNat : Int) - 65 + 10 else 0 := rfl
  have hO : digOk b = (decide (48 ≤ b.toNat ∧ b.toNat ≤ 57) || decide (97 ≤ b.toNat ∧ b.toNat ≤ 102) || decide (65 ≤ b.toNat ∧ b.toNat ≤ 70)) := rfl; generalize digV b = v at hV; generalize digOk b = o at hO; generalize b.toNat = x at *; by_cases h1 : x < 48
  · have HV := Lib.hid (show v = 0 by rw [hV, if_neg (by omega), if_neg (by omega), if_neg (by omega)]); have HO := Lib.hid (show o = false by rw [hO]; simp; omega); clear hV hO; go_enter Tryz.func239, Tryz.ntmps239; go_wp2; go_ret2; exact ⟨dig_ret HV.out.symm HO.out.symm, rfl⟩
  · by_cases h2 : x ≤ 57
    · have HV := Lib.hid (show v = (x : Int) - 48 by rw [hV, if_pos (by omega)]); have HO := Lib.hid (show o = true by rw [hO]; simp; omega); clear hV hO; go_enter Tryz.func239, Tryz.ntmps239; go_wp2; go_ret2; exact ⟨dig_ret HV.out.symm HO.out.symm, rfl⟩
    · by_cases h3 : x < 65
      · have HV := Lib.hid (show v = 0 by rw [hV, if_neg (by omega), if_neg (by omega), if_neg (by omega)]); have HO := Lib.hid (show o = false by rw [hO]; simp; omega); clear hV hO; go_enter Tryz.func239, Tryz.ntmps239; go_wp2; go_ret2; exact ⟨dig_ret HV.out.symm HO.out.symm, rfl⟩
      · by_cases h4 : x ≤ 70
        · have HV := Lib.hid (show v = (x : Int) + 32 - 97 + 10 by rw [hV, if_neg (by omega), if_neg (by omega), if_pos (by omega)]; omega); have HO := Lib.hid (show o = true by rw [hO]; simp; omega); clear hV hO; go_enter Tryz.func239, Tryz.ntmps239; go_wp2; go_ret2; exact ⟨dig_ret (by rw [HV.out]) HO.out.symm, rfl⟩
        · by_cases h5 : x < 97
          · have HV := Lib.hid (show v = 0 by rw [hV, if_neg (by omega), if_neg (by omega), if_neg (by omega)]); have HO := Lib.hid (show o = false by rw [hO]; simp; omega); clear hV hO; go_enter Tryz.func239, Tryz.ntmps239; go_wp2; go_ret2; exact ⟨dig_ret HV.out.symm HO.out.symm, rfl⟩
          · by_cases h6 : x ≤ 102
            · have HV := Lib.hid (show v = (x : Int) - 97 + 10 by rw [hV, if_neg (by omega), if_pos (by omega)]); have HO := Lib.hid (show o = true by rw [hO]; simp; omega); clear hV hO; go_enter Tryz.func239, Tryz.ntmps239; go_wp2; go_ret2; exact ⟨dig_ret HV.out.symm HO.out.symm, rfl⟩
            · have HV := Lib.hid (show v = 0 by rw [hV, if_neg (by omega), if_neg (by omega), if_neg (by omega)]); have HO := Lib.hid (show o = false by rw [hO]; simp; omega); clear hV hO; go_enter Tryz.func239, Tryz.ntmps239; go_wp2; go_ret2; exact ⟨dig_ret HV.out.symm HO.out.symm, rfl⟩
def gatherM (m : Int) : List UInt8 → Int → Option Int
  | [], n => some n
  | b :: r, n => if n * m + digV b ≤ 4611686018427387904 then gatherM m r (n * m + digV b) else none
def gatherV (m : Int) (l : List UInt8) : Int := (gatherM m l 0).getD 0
def gatherOk (m : Int) (l : List UInt8) : Bool := (gatherM m l 0).isSome
theorem gather_test {n m v : Int} (hm : 0 < m) : (4611686018427387904 - v) / m < n ↔ ¬ n * m + v ≤ 4611686018427387904 := by
  rw [Int.not_le]; constructor
  · intro h; have := (Int.ediv_lt_iff_lt_mul hm).1 h; omega
  · intro h; exact (Int.ediv_lt_iff_lt_mul hm).2 (by omega)
set_option maxRecDepth 100000 in
set_option maxHeartbeats 1000000 in
theorem hexa_gather (l : List UInt8) (m : Int) (w : World) (hs : l.length ≤ maxLen) (h2 : 2 ≤ m) (h16 : m ≤ 16) :
    Calls Tryz.prog 224 #[.string (S l), .int .i64 m] w fun e w' => e = .returned (.tuple #[.int .i64 (gatherV m l), .bool (gatherOk m l)]) ∧ Keep [] w w' := by
  have hs' : l.length ≤ 9223372036854775807 := hs; have hcv := conv_run w (S l); have hby := Bytes.conv w 5 l; have hkp := conv_keep w 5 (S l); have hsz := S_size l; have hV : gatherV m l = (gatherM m l 0).getD 0 := rfl; have hO : gatherOk m l = (gatherM m l 0).isSome := rfl; generalize gatherV m l = gv at hV; generalize gatherOk m l = go at hO; have HV := Lib.hid hV; have HO := Lib.hid hO; generalize Lib.bytesWorld w 5 (S l) = wb at hcv hby hkp; generalize hX : w.heap.size = X at hcv hby; have HB := Lib.hid hby; have HK := Lib.hid hkp; have HD := Lib.hid (fun (b : UInt8) (w1 : World) => hexa_digit b w1); clear hs hX hV hO hby hkp; go_enter Tryz.func224, Tryz.ntmps224; go_wp2_with fail
  go_loopg [4, 13] l.length (fun g nv i wr => ∃ (k : Nat) (n : Int), i = .int .i64 k ∧ nv = .int .i64 n ∧ k ≤ l.length ∧ g = l.length - k ∧ 0 ≤ n ∧ n ≤ 4611686018427387904 ∧ wb = wr ∧ Hid (gatherM m l 0 = gatherM m (l.drop k) n))
  case atStart => exact ⟨0, 0, rfl, rfl, Nat.zero_le _, by omega, by omega, by omega, rfl, Lib.hid rfl⟩
  case round =>
    obtain ⟨k, n, rfl, rfl, hk, hgk, hn0, hn1, rfl, HG⟩ := hrel; by_cases hlt : k < l.length
    · obtain ⟨c, hg⟩ : ∃ c, l[k]? = some c := ⟨_, List.getElem?_eq_getElem hlt⟩
      have hc := HB.out.1 k c hg; have hr := HG.out; rw [drop_at hg, gatherM] at hr; obtain ⟨v0, v1⟩ := digV_range c; have hdc := HD.out c; have ht := gather_test (n := n) (m := m) (v := digV c) (by omega); generalize digV c = v at hr v0 v1 hdc ht; have hm0 : 0 ≤ n * m := Int.mul_nonneg hn0 (by omega); have HDC := Lib.hid hdc; clear hg HG hdc; by_cases hle : n * m + v ≤ 4611686018427387904
      · rw [if_pos hle] at hr; have HR := Lib.hid hr; have ht' : ¬ (4611686018427387904 - v) / m < n := fun h => (ht.1 h) hle
        have hm1 : n * m ≤ 4611686018427387904 := by omega
        clear hr ht; go_wp2_with fail; refine (HDC.out _).mono ?_; rintro e w1 ⟨rfl, rfl⟩; go_wp2_with fail
        go_roundg (l.length - (k + 1))
        case measure => omega
        case rel => exact ⟨k + 1, n * m + v, by go_num, rfl, by omega, rfl, by omega, by omega, rfl, HR⟩
      · rw [if_neg hle] at hr; have HR := Lib.hid hr; have ht' : (4611686018427387904 - v) / m < n := ht.2 hle; clear hr ht hle; go_wp2_with fail; refine (HDC.out _).mono ?_; rintro e w1 ⟨rfl, rfl⟩; go_wp2_with fail; go_ret2; exact ⟨dig_ret (by rw [HV.out, HR.out]; rfl) (by rw [HO.out, HR.out]; rfl), HK.out⟩
    · have hke : k = l.length := by omega
      have hr := HG.out; rw [hke, List.drop_length, gatherM] at hr; have HR := Lib.hid hr; clear hr hke; go_wp2_with fail; go_ret2; exact ⟨dig_ret (by rw [HV.out, HR.out]; rfl) (by rw [HO.out, HR.out]; rfl), HK.out⟩
def boundV (m : Int) (l : List UInt8) (most : Int) : Int := match gatherM m l 0 with | some n => if most < n then 0 else n | none => 0
def boundE (m : Int) (l : List UInt8) (most : Int) : Int := match gatherM m l 0 with | some n => if most < n then 14 else 0 | none => 14
theorem two_ret {a c b d : Int} (h : a = c) (h2 : b = d) : Ending.returned (.tuple #[.int .i64 a, .int .i64 b]) = .returned (.tuple #[.int .i64 c, .int .i64 d]) := by rw [h, h2]
theorem gatherM_nonneg (m : Int) (hm : 0 ≤ m) : ∀ (l : List UInt8) (n r : Int), 0 ≤ n → gatherM m l n = some r → 0 ≤ r
  | [], n, r, h, e => by simp [gatherM] at e; omega
  | b :: s, n, r, h, e => by
    unfold gatherM at e
    split at e
    · have := digV_range b; have := Int.mul_nonneg h hm; exact gatherM_nonneg m hm s _ r (by omega) e
    · cases e
theorem boundV_range {m : Int} (hm : 0 ≤ m) (l : List UInt8) (most : Int) : (boundE m l most = 0 → 0 ≤ boundV m l most ∧ boundV m l most ≤ most) ∧ (boundE m l most ≠ 0 → boundV m l most = 0 ∧ boundE m l most = 14) := by
  unfold boundV boundE
  cases h : gatherM m l 0 with
  | none => simp
  | some n =>
    have := gatherM_nonneg m hm l 0 n (by omega) h; dsimp only
    split
    · simp
    · simp; omega
set_option maxRecDepth 100000 in
set_option maxHeartbeats 1000000 in
theorem hexa_bounded (l : List UInt8) (m most : Int) (w : World) (hs : l.length ≤ maxLen) (h2 : 2 ≤ m) (h16 : m ≤ 16) :
    Calls Tryz.prog 199 #[.string (S l), .int .i64 m, .int .i64 most] w fun e w' => e = .returned (.tuple #[.int .i64 (boundV m l most), .int .i64 (boundE m l most)]) ∧ Keep [] w w' := by
  have hG := hexa_gather l m w hs h2 h16; have hV : boundV m l most = (match gatherM m l 0 with | some n => if most < n then 0 else n | none => 0) := rfl; have hE : boundE m l most = (match gatherM m l 0 with | some n => if most < n then 14 else 0 | none => 14) := rfl; unfold gatherV gatherOk at hG; generalize boundV m l most = v at hV; generalize boundE m l most = e0 at hE
  cases hg : gatherM m l 0 with
  | none =>
    rw [hg] at hG hV hE; change Calls _ _ _ _ (fun e w' => e = .returned (.tuple #[.int .i64 0, .bool false]) ∧ Keep [] w w') at hG; have HG := Lib.hid hG; have HV := Lib.hid hV; have HE := Lib.hid hE; clear hG hV hE hg hs; go_enter Tryz.func199, Tryz.ntmps199; go_wp2_with fail; refine HG.out.mono ?_; rintro e w1 ⟨rfl, hk1⟩; have K1 := Lib.hid hk1; clear hk1; go_wp2_with fail; go_ret2; exact ⟨two_ret HV.out.symm HE.out.symm, K1.out⟩
  | some n =>
    rw [hg] at hG hV hE; change Calls _ _ _ _ (fun e w' => e = .returned (.tuple #[.int .i64 n, .bool true]) ∧ Keep [] w w') at hG; dsimp only at hV hE; by_cases ht : most < n
    · rw [if_pos ht] at hV hE; have HG := Lib.hid hG; have HV := Lib.hid hV; have HE := Lib.hid hE; clear hG hV hE hg hs; go_enter Tryz.func199, Tryz.ntmps199; go_wp2_with fail; refine HG.out.mono ?_; rintro e w1 ⟨rfl, hk1⟩; have K1 := Lib.hid hk1; clear hk1; go_wp2_with fail; go_ret2; exact ⟨two_ret HV.out.symm HE.out.symm, K1.out⟩
    · rw [if_neg ht] at hV hE; have HG := Lib.hid hG; have HV := Lib.hid hV; have HE := Lib.hid hE; clear hG hV hE hg hs; go_enter Tryz.func199, Tryz.ntmps199; go_wp2_with fail; refine HG.out.mono ?_; rintro e w1 ⟨rfl, hk1⟩; have K1 := Lib.hid hk1; clear hk1; go_wp2_with fail; go_ret2; exact ⟨two_ret HV.out.symm HE.out.symm, K1.out⟩
def decB (b : UInt8) : Bool := decide (48 ≤ b.toNat) && decide (b.toNat ≤ 57)
def isDecM (l : List UInt8) : Bool := l.all decB && !l.isEmpty && (decide (l.length = 1) || decide (l.head? ≠ some 48))
set_option maxRecDepth 100000 in
set_option maxHeartbeats 1000000 in
theorem hexa_isDec (l : List UInt8) (w : World) (hs : l.length ≤ maxLen) :
    Calls Tryz.prog 198 #[.string (S l)] w fun e w' => e = .returned (.bool (isDecM l)) ∧ Keep [] w w' := by
  have hs' : l.length ≤ 9223372036854775807 := hs; have hcv := conv_run w (S l); have hby := Bytes.conv w 5 l; have hkp := conv_keep w 5 (S l); have hsz := S_size l; have hD : isDecM l = (l.all decB && !l.isEmpty && (decide (l.length = 1) || decide (l.head? ≠ some 48))) := rfl; generalize isDecM l = dv at hD; generalize Lib.bytesWorld w 5 (S l) = wb at hcv hby hkp; generalize hX : w.heap.size = X at hcv hby; have HB := Lib.hid hby; have HK := Lib.hid hkp; have HD := Lib.hid hD; clear hs hX hby hkp hD; go_enter Tryz.func198, Tryz.ntmps198; go_wp2_with fail
  go_loopg [8] l.length (fun g i wr => ∃ (k : Nat), i = .int .i64 k ∧ k ≤ l.length ∧ g = l.length - k ∧ wb = wr ∧ Hid ((l.take k).all decB = true))
  case atStart => exact ⟨0, rfl, Nat.zero_le _, by omega, rfl, Lib.hid rfl⟩
  case round =>
    obtain ⟨k, rfl, hk, hgk, rfl, HG⟩ := hrel; by_cases hlt : k < l.length
    · obtain ⟨c, hg⟩ : ∃ c, l[k]? = some c := ⟨_, List.getElem?_eq_getElem hlt⟩
      have hc := HB.out.1 k c hg; have hc8 := u8_nat c; by_cases h1 : 48 ≤ c.toNat ∧ c.toNat ≤ 57
      · have HN : Hid ((l.take (k + 1)).all decB = true) := by
          rw [take_snoc hg, List.all_append, HG.out]; simp [decB, h1, Hid]
        obtain ⟨h2, h3⟩ := h1; clear hg HG; go_wp2_with fail
        go_roundg (l.length - (k + 1))
        case measure => omega
        case rel => exact ⟨k + 1, by go_num, by omega, rfl, rfl, HN⟩
      · have hno : dv = false := by
          rw [HD.out]
          have : l.all decB = false := by
            rw [List.all_eq_false]; exact ⟨c, List.mem_of_getElem? hg, by simp [decB]; omega⟩
          rw [this]; simp
        have HN := Lib.hid hno; clear hg HG hno; by_cases h2 : c.toNat < 48
        · go_wp2_with fail; go_ret; exact ⟨ret_bool HN.out.symm, HK.out⟩
        · have h3 : 57 < c.toNat := by omega
          clear h1; go_wp2_with fail; go_ret; exact ⟨ret_bool HN.out.symm, HK.out⟩
    · have hke : k = l.length := by omega
      have hall := HG.out; rw [hke, List.take_length] at hall; have hD := HD.out; rw [hall] at hD; have HDD := Lib.hid hD; clear hke hall hD HG
      cases l with
      | nil =>
        have q0 : (S []).toList = [] := S_toList []; go_wp2_with fail; go_ret; exact ⟨ret_bool (by rw [HDD.out]; rfl), HK.out⟩
      | cons b r =>
        have q0 : (S (b :: r)).toList = b :: r := S_toList _; have q1 : (S (b :: r))[0]'(by rw [hsz]; simp) = b := S_get rfl _
        cases r with
        | nil =>
          have hk1 : 1 ≤ k := by simp at hlt; omega
          go_wp2_with fail; go_ret; exact ⟨ret_bool (by rw [HDD.out]; rfl), HK.out⟩
        | cons b2 r2 =>
          have hk1 : r2.length + 1 + 1 ≤ k := by simp at hlt; omega
          have q2 : ((S (b :: b2 :: r2)).size) = r2.length + 1 + 1 := by rw [hsz]; simp
          obtain ⟨z1, z2⟩ := int_ne (show (r2.length : Int) + 1 + 1 ≠ 1 by omega); have hb8 := u8_nat b; by_cases hb : b.toNat = 48
          · obtain ⟨z3, z4⟩ := int_eq (show ((b.toNat : Nat) : Int) = 48 by omega)
            have HF : Hid (dv = false) := by
              rw [HDD.out]; have : b = 48 := UInt8.toNat_inj.1 hb; simp [this, Hid]
            clear hb; go_wp2_with fail; go_ret; exact ⟨ret_bool HF.out.symm, HK.out⟩
          · obtain ⟨z3, z4⟩ := int_ne (show ((b.toNat : Nat) : Int) ≠ 48 by omega)
            have HF : Hid (dv = true) := by
              rw [HDD.out]; have : b ≠ 48 := fun h => hb (by rw [h]; rfl)
              simp [this, Hid]
            clear hb; go_wp2_with fail; go_ret; exact ⟨ret_bool HF.out.symm, HK.out⟩
def undecV (l : List UInt8) (most : Int) : Int := if isDecM l then boundV 10 l most else 0
def undecE (l : List UInt8) (most : Int) : Int := if isDecM l then boundE 10 l most else 3
theorem undec_range (l : List UInt8) (most : Int) : (undecE l most = 0 → 0 ≤ undecV l most ∧ undecV l most ≤ most) ∧ (undecE l most ≠ 0 → undecV l most = 0 ∧ (undecE l most = 14 ∨ undecE l most = 3)) := by
  unfold undecV undecE; have h := boundV_range (m := 10) (by omega) l most
  split
  · exact ⟨h.1, fun h2 => ⟨(h.2 h2).1, .inl (h.2 h2).2⟩⟩
  · simp
set_option maxRecDepth 100000 in
set_option maxHeartbeats 1000000 in
theorem hexa_Undec (l : List UInt8) (most : Int) (w : World) (hs : l.length ≤ maxLen) :
    Calls Tryz.prog 164 #[.string (S l), .int .i64 most] w fun e w' => e = .returned (.tuple #[.int .i64 (undecV l most), .int .i64 (undecE l most)]) ∧ Keep [] w w' := by
  have hD := hexa_isDec l w hs; have hB := fun w1 => hexa_bounded l 10 most w1 hs (by omega) (by omega)
  have hV : undecV l most = if isDecM l then boundV 10 l most else 0 := rfl
  have hE : undecE l most = if isDecM l then boundE 10 l most else 3 := rfl
  generalize undecV l most = v at hV; generalize undecE l most = e0 at hE
  cases hd : isDecM l with
  | true =>
    rw [hd] at hD hV hE; rw [if_pos rfl] at hV hE; have HD := Lib.hid hD; have HB := Lib.hid hB; have HV := Lib.hid hV; have HE := Lib.hid hE; clear hD hB hV hE hd hs; go_enter Tryz.func164, Tryz.ntmps164; go_wp2_with fail; refine HD.out.mono ?_; rintro e w1 ⟨rfl, hk1⟩; have K1 := Lib.hid hk1; clear hk1; go_wp2_with fail; refine (HB.out _).mono ?_; rintro e w2 ⟨rfl, hk2⟩; have K2 := Lib.hid (K1.out.trans hk2); clear hk2; go_wp2_with fail; go_ret2; exact ⟨two_ret HV.out.symm HE.out.symm, K2.out⟩
  | false =>
    rw [hd] at hD hV hE; rw [if_neg (by simp)] at hV hE; have HD := Lib.hid hD; have HV := Lib.hid hV; have HE := Lib.hid hE; clear hD hB hV hE hd hs; go_enter Tryz.func164, Tryz.ntmps164; go_wp2_with fail; refine HD.out.mono ?_; rintro e w1 ⟨rfl, hk1⟩; have K1 := Lib.hid hk1; clear hk1; go_wp2_with fail; go_ret2; exact ⟨two_ret HV.out.symm HE.out.symm, K1.out⟩
def GT : Int := 4611686018427387904
theorem dig_byte {u : Nat} (h : u < 10) : (UInt8.ofNat (48 + u)).toNat = 48 + u := by
  simp [UInt8.toNat_ofNat']; omega
theorem dig_dec {u : Nat} (h : u < 10) : decB (UInt8.ofNat (48 + u)) = true := by
  unfold decB; rw [dig_byte h]; simp; omega
theorem dec_small {u : Nat} (h : u < 10) : Lib.decDigits u = [UInt8.ofNat (48 + u)] := by rw [Lib.decDigits, dif_pos h]
theorem dec_big {u : Nat} (h : ¬ u < 10) : Lib.decDigits u = Lib.decDigits (u / 10) ++ [UInt8.ofNat (48 + u % 10)] := by rw [Lib.decDigits, dif_neg h]
theorem dec_all (u : Nat) : (Lib.decDigits u).all decB = true := by
  induction u using Nat.strongRecOn with
  | _ u ih =>
    by_cases h : u < 10
    · rw [dec_small h, List.all_cons, List.all_nil, dig_dec h]; rfl
    · rw [dec_big h, List.all_append, ih (u / 10) (by omega), List.all_cons, List.all_nil, dig_dec (show u % 10 < 10 by omega)]; rfl
theorem dec_ne (u : Nat) : Lib.decDigits u ≠ [] := by
  by_cases h : u < 10
  · rw [dec_small h]; simp
  · rw [dec_big h]; simp
theorem dec_head (u : Nat) (h1 : 1 ≤ u) : (Lib.decDigits u).head? ≠ some 48 := by
  induction u using Nat.strongRecOn with
  | _ u ih =>
    by_cases h : u < 10
    · rw [dec_small h]; intro e; have := congrArg UInt8.toNat (Option.some.inj e); rw [dig_byte h] at this; have h48 : (48 : UInt8).toNat = 48 := rfl; omega
    · rw [dec_big h, List.head?_append]; have := ih (u / 10) (by omega) (by omega)
      cases hd : (Lib.decDigits (u / 10)).head? with
      | none => exact absurd (List.head?_eq_none_iff.1 hd) (dec_ne _)
      | some x => rw [hd] at this; simpa using this
theorem gather_append (m : Int) : ∀ (a b : List UInt8) (n : Int), gatherM m (a ++ b) n = (gatherM m a n).bind (gatherM m b)
  | [], b, n => rfl
  | x :: a, b, n => by
    simp only [List.cons_append, gatherM]
    split
    · exact gather_append m a b _
    · rfl
theorem digV_dig {u : Nat} (h : u < 10) : digV (UInt8.ofNat (48 + u)) = u := by
  unfold digV; rw [dig_byte h, if_pos (by omega)]; omega
theorem gather_dec (u : Nat) (h : (u : Int) ≤ 4611686018427387904) : gatherM 10 (Lib.decDigits u) 0 = some (u : Int) := by
  induction u using Nat.strongRecOn with
  | _ u ih =>
    by_cases h1 : u < 10
    · rw [dec_small h1]; simp only [gatherM]; rw [digV_dig h1, if_pos (by omega)]; simp
    · rw [dec_big h1, gather_append, ih (u / 10) (by omega) (by omega)]; simp only [Option.bind_some, gatherM]; rw [digV_dig (show u % 10 < 10 by omega), if_pos (by omega)]; congr 1; omega
theorem dec_isDec (u : Nat) : isDecM (Lib.decDigits u) = true := by
  unfold isDecM; rw [dec_all]; have hn : (Lib.decDigits u).isEmpty = false := by simp [dec_ne]
  rw [hn]; by_cases h : u < 10
  · rw [dec_small h]; simp
  · have := dec_head u (by omega); simp [this]
theorem undec_dec (u : Nat) (most : Int) (h : (u : Int) ≤ most) (hm : most ≤ 4611686018427387904) : undecV (Lib.decDigits u) most = u ∧ undecE (Lib.decDigits u) most = 0 := by
  unfold undecV undecE boundV boundE; rw [dec_isDec, gather_dec u (by omega)]; simp only [if_true]; rw [if_neg (by omega), if_neg (by omega)]; exact ⟨rfl, rfl⟩
end Go.Proofs.YtlhnjkekjbbhcaaGreatDoor
