/- Parts of the proof of ErrandTries, in order. No conditions but those that each theorem states. -/
import Derived.Test.YtlhnjkekjbbhcaaGreatDoorYErrandTries0
import Derived.Test.YtlhnjkekjbbhcaaGreatDoorYErrandTries3
set_option linter.unusedSimpArgs false
set_option linter.unusedVariables false
namespace Go.Proofs.YtlhnjkekjbbhcaaGreatDoor
open Go.RowKit Go.Shelf
def digB16 : List UInt8 := [48, 49, 50, 51, 52, 53, 54, 55, 56, 57, 97, 98, 99, 100, 101, 102]
def dgH (n : Nat) : UInt8 := digB16.getD n 0
def hexS (l : List UInt8) : List UInt8 := l.flatMap fun b => [dgH (b.toNat / 16), dgH (b.toNat % 16)]
theorem hexS_len : ∀ l : List UInt8, (hexS l).length = 2 * l.length
  | [] => rfl
  | b :: l => by
    have e : hexS (b :: l) = [dgH (b.toNat / 16), dgH (b.toNat % 16)] ++ hexS l := rfl; rw [e, List.length_append, hexS_len l]; simp; omega
theorem hexS_snoc (l : List UInt8) (b : UInt8) : hexS (l ++ [b]) = hexS l ++ [dgH (b.toNat / 16), dgH (b.toNat % 16)] := by unfold hexS; simp
theorem dgH_get {n : Nat} (h : n < 16) : ∀ hk : n < (⟨#[48, 49, 50, 51, 52, 53, 54, 55, 56, 57, 97, 98, 99, 100, 101, 102]⟩ : ByteArray).size, (⟨#[48, 49, 50, 51, 52, 53, 54, 55, 56, 57, 97, 98, 99, 100, 101, 102]⟩ : ByteArray)[n] = dgH n := by
  have key : ∀ n : Fin 16, ∀ hk : n.1 < (⟨#[48, 49, 50, 51, 52, 53, 54, 55, 56, 57, 97, 98, 99, 100, 101, 102]⟩ : ByteArray).size, (⟨#[48, 49, 50, 51, 52, 53, 54, 55, 56, 57, 97, 98, 99, 100, 101, 102]⟩ : ByteArray)[n.1] = dgH n.1 := by decide +kernel
  exact key ⟨n, h⟩
theorem conv_lt (w : World) (E : TypeId) (s : ByteArray) : w.heap.size < (Lib.bytesWorld w E s).heap.size := by rw [Lib.bytesWorld_size]; omega
theorem and15 {n : Nat} (h : n < 256) : bits BinOp.and IntKind.u8 (n : Int) 15 = (n : Int) % 16 := by
  have key : ∀ n : Fin 256, bits BinOp.and IntKind.u8 ((n.1 : Nat) : Int) 15 = ((n.1 : Nat) : Int) % 16 := by decide +kernel
  exact key ⟨n, h⟩
theorem step_appendQ {P : Program} {ops : Array Oper} {o : Oper} {a : Act} {w : World} {K : Act → World → Prop} {Q : Exit → Act → World → Prop} {X : Prop} (hgd : o.guard = none) (s x : Operand) (t : TypeId)
    (ho : o.op = .call { callee := .builtin .append, args := #[s, x], argTypes := #[t, t] })
    {α : Type} {enc : α → List Value} {n base : Nat} {E : TypeId} {L M : List α} {v : Value}
    (i : TypeInfo) (z : Value) (bytes : Nat) (ht : P.underlying t = some (.slice E)) (HI : Hid (P.info? E = some i ∧ i.zero = some z ∧ i.size = n ∧ i.bytes = bytes)) (hzs : z.cells.size = n) (hn0 : 0 < n)
    (hn : ∀ x, (enc x).length = n) (h1 : ∀ x, ∀ u ∈ enc x, u.oneCell' = true) (hb0 : base ≤ w.heap.size)
    (hs : a.eval s = v) (hown : Own enc n base E w v L) (ad : Addr) (c : Nat) (hx : a.eval x = .slice (some ad) M.length c) (hM : ∀ j u, (rows enc M)[j]? = some u → w.cell? (ad.add j) = some u)
    (h63 : L.length + M.length ≤ maxLen) (hbytes : (L.length + M.length) * bytes ≤ 140737488355328)
    (h : ∀ v' w', Own enc n base E w' v' (L ++ M) → w.grownBy w' v.ownBlock → (v'.ownBlock = v.ownBlock ∨ v'.ownBlock = some w.heap.size) → K (a.put o.dst v') w') : if Region.wanted o (yielded ops a.tmps) = true then Oper.wp P o a w K Q else X := by
  rw [if_pos (by simp [Region.wanted, hgd])]
  obtain ⟨v', w', hrun, h2, h3, h4, h5⟩ := run_append_own_at (P := P) w base t o.type E i z n bytes ht HI.out.1 HI.out.2.1 HI.out.2.2.1 HI.out.2.2.2 hzs hn0 v L.length (rows enc L) hown ad M.length c (rows enc M) (by rw [rows_length hn M, Nat.mul_comm]) hM (fun u hu => by
        unfold rows at hu; obtain ⟨l, hl, hu⟩ := List.mem_flatMap.1 hu
        exact h1 l u hu) h63 hbytes hb0
  unfold Oper.wp; simp [execOp, ho, resolve, invoke, builtin, hs, hx, hrun, Result.andThen]; refine h v' w' ?_ h3 h5; unfold Own; have e : rows enc (L ++ M) = rows enc L ++ rows enc M := by simp [rows]
  rw [e, List.length_append]; exact h2
set_option maxRecDepth 100000 in
set_option maxHeartbeats 4000000 in
theorem hexa_Hex (l : List UInt8) (w : World) (hs : l.length ≤ 1048576) :
    Calls Tryz.prog 129 #[.string (S l)] w fun e w' => e = .returned (.string (S (hexS l))) ∧ Keep [] w w' := by
  have hsz := S_size l; obtain ⟨i0, hi, hz0, hz1, hz2⟩ := info_parts u8info; have HI := Lib.hid (And.intro hi (And.intro hz0 (And.intro hz1 hz2))); have wm := IntWalk.i64_in (2 * (l.length : Int)) (by omega); have HM := Lib.hid (show ∀ w' : World, w'.ownsRow w.heap.size 5 1 (.slice (some ⟨w.heap.size, 0, none⟩) 0 (2 * l.length)) 0 [] → w.grownBy w' none → Own byteC 1 w.heap.size 5 w' (.slice (some ⟨w.heap.size, 0, none⟩) 0 (2 * l.length)) (hexS (l.take 0)) ∧ Keep [] w w' from fun w' h1 h2 => ⟨by rw [List.take_zero]; exact h1, (Keep.refl [] w).grown h2 (fun k hk => by cases hk)⟩); go_enter Tryz.func129, Tryz.ntmps129
  go_wp2_with (first
    | (with_reducible (show wpList _ _ _ ((⟨_, .makeSlice _ _ _, _, _, _, none⟩ : Oper) :: _) _ _)
       refine wpList_make_own _ rfl _ _ 143 rfl w.heap.size 5 i0 _ 1 Tryz.underlying143 hi hz0 hz1 .i64 .i64 _ (2 * l.length) rfl rfl (by omega) (by rw [hz2]; omega) (by unfold maxLen; omega) (Nat.le_refl _) ?_; intro w1 hr1 hg1; have ho := HM.out w1 hr1 hg1; have hcv := conv_run w1 (S l); have hcl : ∀ (k : Nat) (c : UInt8), l[k]? = some c → _ := fun k c h => conv_at w1 5 h
       have HC0 := Lib.hid hcl; have hkp := conv_keep w1 5 (S l); have HO := Lib.hid (show Own byteC 1 w.heap.size 5 (Lib.bytesWorld w1 5 (S l)) (.slice (some ⟨w.heap.size, 0, none⟩) 0 (2 * l.length)) (hexS (l.take 0)) ∧ Keep [] w (Lib.bytesWorld w1 5 (S l)) ∧ w.heap.size < w1.heap.size ∧ w1.heap.size < (Lib.bytesWorld w1 5 (S l)).heap.size from ⟨ho.1.keep0 hkp, ho.2.trans hkp, (ho.1.lt w.heap.size rfl).2, conv_lt w1 5 (S l)⟩); clear hr1 hg1 ho hkp hcl; generalize Lib.bytesWorld w1 5 (S l) = wb at hcv HC0 HO; try simp only [Act.put, sqA, sqB, sqC])
    | fail)
  go_loopg [3, 13] l.length (fun g v i wr => ∃ k : Nat, i = .int .i64 (k : Nat) ∧ k ≤ l.length ∧ g = l.length - k ∧ Hid (Own byteC 1 w.heap.size 5 wr v (hexS (l.take k))) ∧ Hid (Keep [] w wr) ∧ Hid ((∀ (k : Nat) (c : UInt8), l[k]? = some c → wr.cell? ⟨w1.heap.size, k, none⟩ = some (.int .u8 c.toNat)) ∧ (∀ g, v.ownBlock = some g → g ≠ w1.heap.size) ∧ w1.heap.size < wr.heap.size))
  case atStart => exact ⟨0, rfl, Nat.zero_le _, rfl, Lib.hid HO.out.1, Lib.hid HO.out.2.1, Lib.hid ⟨HC0.out, fun g hg => by have e3 : w.heap.size = g := (by simpa [Value.ownBlock] using hg); have := HO.out.2.2.1; omega, HO.out.2.2.2⟩⟩
  case round =>
    obtain ⟨k, rfl, hk, hg, HOw, HK, HC⟩ := hrel; by_cases hlt : k < l.length
    · obtain ⟨c, hc⟩ : ∃ c, l[k]? = some c := ⟨_, List.getElem?_eq_getElem hlt⟩
      have a0 := HC.out.1 k c hc; have c8 := u8_nat c; have HCc := Lib.hid hc; have wk := IntWalk.i64_in ((k : Int) + 1) (by omega); clear hc; have e1 := dgH_get (n := c.toNat / 16) (by omega); have e2 := dgH_get (n := c.toNat % 16) (by omega); have ha := and15 c8; have f0 : (0 : Int) ≤ (c.toNat : Int) / 16 := by omega
      have f1 : (c.toNat : Int) / 16 < 16 := by omega
      have f2 : ((c.toNat : Int) / 16).toNat = c.toNat / 16 := by omega
      have f3 : (0 : Int) ≤ (c.toNat : Int) % 16 := by omega
      have f4 : (c.toNat : Int) % 16 < 16 := by omega
      have f5 : ((c.toNat : Int) % 16).toNat = c.toNat % 16 := by omega
      go_wp2_with fail; refine wp_region_any (by kernel_rfl) ?_; change wpAny _ _ _ _ _ _ _ (World.drew _); refine wpAny_take (i := 0) (v := ?_) rfl (by kernel_rfl) (by kernel_rfl) (by kernel_rfl) (fun _ _ _ h => h) (Or.inl ⟨by rfl, ?_⟩) ?_; rotate_left
      · (intro w; go_simp) <;> (with_reducible rfl)
      (try simp only [Act.put, sqA]); refine wpAny_take (i := 1) (v := ?_) rfl (by kernel_rfl) (by kernel_rfl) (by kernel_rfl) (fun _ _ _ h => h) (Or.inl ⟨by rfl, ?_⟩) ?_; rotate_left
      · (intro w; go_simp) <;> (with_reducible rfl)
      (try simp only [Act.put]); refine wpAny_take (i := 2) (v := .int .u8 ((c.toNat / 16 : Nat) : Int)) rfl (by kernel_rfl) (by kernel_rfl) (by kernel_rfl) (fun _ _ _ h => h) (Or.inl ⟨by rfl, ?_⟩) ?_
      · intro w; go_simp
      (try simp only [Act.put]); refine wpAny_take (i := 3) (v := .int .u8 ((dgH (c.toNat / 16)).toNat : Int)) rfl (by kernel_rfl) (by kernel_rfl) (by kernel_rfl) (fun _ _ _ h => h) (Or.inl ⟨by rfl, ?_⟩) ?_
      · intro w; go_simp
      (try simp only [Act.put]); refine wpAny_take (i := 4) (v := ?_) rfl (by kernel_rfl) (by kernel_rfl) (by kernel_rfl) (fun _ _ _ h => h) (Or.inl ⟨by rfl, ?_⟩) ?_; rotate_left
      · (intro w; go_simp) <;> (with_reducible rfl)
      (try simp only [Act.put]); refine wpAny_take (i := 5) (v := .int .u8 ((c.toNat % 16 : Nat) : Int)) rfl (by kernel_rfl) (by kernel_rfl) (by kernel_rfl) (fun _ _ _ h => h) (Or.inl ⟨by rfl, ?_⟩) ?_
      · intro w; go_simp
      (try simp only [Act.put]); refine wpAny_take (i := 6) (v := .int .u8 ((dgH (c.toNat % 16)).toNat : Int)) rfl (by kernel_rfl) (by kernel_rfl) (by kernel_rfl) (fun _ _ _ h => h) (Or.inl ⟨by rfl, ?_⟩) ?_
      · intro w; go_simp
      (try simp only [Act.put]); refine wpAny_ready (rs := [7]) (by kernel_rfl) (by simp) ?_; refine AllReady.cons (o := _) rfl (fun K hK => ?_) ?_
      · go_simp; refine hK _ _ ?_; clear hK K; (try simp only [Act.put, sqA, sqC, sqB]); have kD : Keep [] wr (wr.drew.alloc (.cells #[.int .u8 ((dgH (c.toNat / 16)).toNat : Int), .int .u8 ((dgH (c.toNat % 16)).toNat : Int)] 5)) := ((Keep.refl [] wr).drew).alloc _; have HD := Lib.hid kD; have HOD := Lib.hid (HOw.out.keep0 kD); have hsd : (World.drew wr).heap.size = wr.heap.size := rfl
        have hM : ∀ j u, (rows byteC [dgH (c.toNat / 16), dgH (c.toNat % 16)])[j]? = some u → (wr.drew.alloc (.cells #[.int .u8 ((dgH (c.toNat / 16)).toNat : Int), .int .u8 ((dgH (c.toNat % 16)).toNat : Int)] 5)).cell? ((⟨wr.heap.size, 0, none⟩ : Addr).add j) = some u := by
          intro j u hj; have hA : Blk (wr.drew.alloc (.cells #[.int .u8 ((dgH (c.toNat / 16)).toNat : Int), .int .u8 ((dgH (c.toNat % 16)).toNat : Int)] 5)) wr.drew.heap.size 5 [.int .u8 ((dgH (c.toNat / 16)).toNat : Int), .int .u8 ((dgH (c.toNat % 16)).toNat : Int)] := Blk.newA wr.drew #[.int .u8 ((dgH (c.toNat / 16)).toNat : Int), .int .u8 ((dgH (c.toNat % 16)).toNat : Int)] _; have e1 : rows byteC [dgH (c.toNat / 16), dgH (c.toNat % 16)] = [.int .u8 ((dgH (c.toNat / 16)).toNat : Int), .int .u8 ((dgH (c.toNat % 16)).toNat : Int)] := by simp [rows, byteC]
          rw [e1] at hj; have e2 : (⟨wr.heap.size, 0, none⟩ : Addr).add j = ⟨wr.drew.heap.size, j, none⟩ := by rw [hsd]; unfold Addr.add; split <;> simp_all
          rw [e2, hA.cell j]; exact hj
        have HMc := Lib.hid hM; have hll := hexS_len (l.take k); rw [List.length_take, Nat.min_eq_left hk] at hll; have HLL := Lib.hid hll
        have HCK := Lib.hid (fun (w3 : World) (v3 : Value) (hg3 : (wr.drew.alloc (.cells #[.int .u8 ((dgH (c.toNat / 16)).toNat : Int), .int .u8 ((dgH (c.toNat % 16)).toNat : Int)] 5)).grownBy w3 u3.ownBlock) (ha3 : v3.ownBlock = u3.ownBlock ∨ v3.ownBlock = some (wr.drew.alloc (.cells #[.int .u8 ((dgH (c.toNat / 16)).toNat : Int), .int .u8 ((dgH (c.toNat % 16)).toNat : Int)] 5)).heap.size) =>
          show Keep [] w w3 ∧ (∀ (k : Nat) (c : UInt8), l[k]? = some c → w3.cell? ⟨w1.heap.size, k, none⟩ = some (.int .u8 c.toNat)) ∧ (∀ g, v3.ownBlock = some g → g ≠ w1.heap.size) ∧ w1.heap.size < w3.heap.size from
          have h0 := HC.out.2.2; have h1 := HD.out.size; have h2 := hg3.size
          ⟨(HK.out.trans HD.out).grown hg3 (fun q hq hlt => by have := (HOw.out.lt q hq).1; omega),
            fun k c h => by
              have e1 := hg3.block w1.heap.size (by omega) (fun e => HC.out.2.1 _ e.symm rfl); have e2 := HD.out.block w1.heap.size h0 (by simp); have e3 := HC.out.1 k c h; unfold World.cell? at e3 ⊢; dsimp only at e3 ⊢; rw [e1, e2]; exact e3,
            fun g hg => by
              rcases ha3 with e | e
              · rw [e] at hg; exact HC.out.2.1 g hg
              · rw [e] at hg; have : (wr.drew.alloc (.cells #[.int .u8 ((dgH (c.toNat / 16)).toNat : Int), .int .u8 ((dgH (c.toNat % 16)).toNat : Int)] 5)).heap.size = g := by simpa using hg
                omega,
            by omega⟩)
        have HSN := Lib.hid (hexS_snoc (l.take k) c); have HTK := Lib.hid (take_snoc HCc.out); clear kD hM hll; refine wpAny_ready (rs := [8]) (by kernel_rfl) (by simp) ?_; refine AllReady.cons (o := _) rfl (fun K hK => ?_) ?_
        · refine step_appendQ rfl (.tmp 17) (.tmp 24) 143 rfl i0 (.int .u8 0) 1 Tryz.underlying143 HI rfl (by decide) byteC_length byteC_one (base := w.heap.size) (Nat.le_trans HK.out.size HD.out.size) (by rfl) HOD.out ⟨wr.heap.size, 0, none⟩ 2 (M := [dgH (c.toNat / 16), dgH (c.toNat % 16)]) (by rfl) HMc.out (by have := HLL.out; simp; unfold maxLen; omega) (by have := HLL.out; simp; omega) ?_; intro v3 w3 hown3 hg3 ha3; have hx3 := HCK.out w3 v3 hg3 ha3; have HO3 := Lib.hid (show Own byteC 1 w.heap.size 5 w3 v3 (hexS (l.take (k + 1))) by rw [HTK.out, HSN.out]; exact hown3); have HK3 := Lib.hid hx3.1; have HC3 := Lib.hid hx3.2; clear hown3 hg3 ha3 hx3; refine hK _ _ ?_; clear hK K; (try simp only [Act.put, sqA]); refine wpAny_take (i := 9) (v := ?_) rfl (by kernel_rfl) (by kernel_rfl) (by kernel_rfl) (fun _ _ _ h => h) (Or.inl ⟨by rfl, ?_⟩) ?_; rotate_left
          · (intro w; go_simp) <;> (with_reducible rfl)
          (try simp only [Act.put]); refine wpAny_done (by kernel_rfl) ?_ _; go_wp2_with fail
          go_roundg (l.length - (k + 1))
          case measure => omega
          case rel => exact ⟨k + 1, by go_num, by omega, rfl, HO3, HK3, HC3⟩
        · exact AllReady.nil
      · exact AllReady.nil
    · have hke : l.take k = l := List.take_of_length_le (by omega); have ho := HOw.out; rw [hke] at ho; have hback := own_back (P := Tryz.prog) ho 143 9 Tryz.underlying143 Tryz.underlying5 Tryz.underlying9; clear hke ho; go_wp2_with fail; go_ret; exact ⟨rfl, HK.out⟩
def smO (b : UInt8) : Bool := decide (48 ≤ b.toNat ∧ b.toNat ≤ 57) || decide (97 ≤ b.toNat ∧ b.toNat ≤ 102)
def smV (b : UInt8) : Nat := if 48 ≤ b.toNat ∧ b.toNat ≤ 57 then b.toNat - 48 else if 97 ≤ b.toNat ∧ b.toNat ≤ 102 then b.toNat - 87 else 0
def unhexM : List UInt8 → Option (List UInt8)
  | [] => some []
  | [_] => none
  | a :: b :: r => if smO a && smO b then (unhexM r).map (fun o => UInt8.ofNat (16 * smV a + smV b) :: o) else none
theorem smV_lt (b : UInt8) : smV b < 16 := by unfold smV; split; (omega); split <;> omega
theorem all_u8 {p : UInt8 → Prop} (h : ∀ n : Fin 256, p (UInt8.ofNat n.1)) (b : UInt8) : p b := by
  have := h ⟨b.toNat, b.toNat_lt⟩; simpa using this
theorem dg_sm (b : UInt8) : smO b = true → dgH (smV b) = b := by
  have key : ∀ n : Fin 256, smO (UInt8.ofNat n.1) = true → dgH (smV (UInt8.ofNat n.1)) = UInt8.ofNat n.1 := by decide +kernel
  exact all_u8 (p := fun b => smO b = true → dgH (smV b) = b) key b
theorem ofNat_two {a b : Nat} (ha : a < 16) (hb : b < 16) : (UInt8.ofNat (16 * a + b)).toNat = 16 * a + b := by
  rw [UInt8.toNat_ofNat']; omega
theorem hex_unhex : ∀ (s o : List UInt8), unhexM s = some o → hexS o = s
  | [], o, h => by
    have : o = [] := by simpa [unhexM] using h.symm
    rw [this]; rfl
  | [_], o, h => by simp [unhexM] at h
  | a :: b :: r, o, h => by
    unfold unhexM at h
    split at h
    · rename_i hab; simp only [Bool.and_eq_true] at hab
      cases hr : unhexM r with
      | none => rw [hr] at h; cases h
      | some q =>
        rw [hr] at h; have hq := hex_unhex r q hr; have : o = UInt8.ofNat (16 * smV a + smV b) :: q := by simpa using h.symm
        rw [this]; have e : hexS (UInt8.ofNat (16 * smV a + smV b) :: q) = dgH ((UInt8.ofNat (16 * smV a + smV b)).toNat / 16) :: dgH ((UInt8.ofNat (16 * smV a + smV b)).toNat % 16) :: hexS q := rfl; have ha := smV_lt a; have hb := smV_lt b; rw [e, ofNat_two ha hb, hq, show (16 * smV a + smV b) / 16 = smV a by omega, show (16 * smV a + smV b) % 16 = smV b by omega, dg_sm a hab.1, dg_sm b hab.2]
    · cases h
theorem unhex_len : ∀ (s o : List UInt8), unhexM s = some o → s.length = 2 * o.length := fun s o h => by
  rw [← hex_unhex s o h, hexS_len]
theorem unhex_odd : ∀ s : List UInt8, s.length % 2 ≠ 0 → unhexM s = none := fun s h => by
  cases hu : unhexM s with
  | none => rfl
  | some o => have := unhex_len s o hu; omega
theorem or16 {a b : Nat} (ha : a < 16) (hb : b < 16) : bits BinOp.or IntKind.i64 ((a : Int) * 16) (b : Int) = (16 * a + b : Nat) := by
  have key : ∀ a b : Fin 16, bits BinOp.or IntKind.i64 (((a.1 : Nat) : Int) * 16) ((b.1 : Nat) : Int) = ((16 * a.1 + b.1 : Nat) : Int) := by decide +kernel
  exact key ⟨a, ha⟩ ⟨b, hb⟩
set_option maxRecDepth 100000 in
set_option maxHeartbeats 2000000 in
theorem hexa_small (b : UInt8) (w : World) :
    Calls Tryz.prog 228 #[.int .u8 b.toNat] w fun e w' => e = .returned (.tuple #[.int .i64 (smV b : Nat), .bool (smO b)]) ∧ w = w' := by
  have hb := u8_nat b; have hV : smV b = if 48 ≤ b.toNat ∧ b.toNat ≤ 57 then b.toNat - 48 else if 97 ≤ b.toNat ∧ b.toNat ≤ 102 then b.toNat - 87 else 0 := rfl
  have hO : smO b = (decide (48 ≤ b.toNat ∧ b.toNat ≤ 57) || decide (97 ≤ b.toNat ∧ b.toNat ≤ 102)) := rfl; have HV := Lib.hid (And.intro hV hO); clear hV hO; by_cases c1 : 48 ≤ b.toNat ∧ b.toNat ≤ 57
  · have HF := Lib.hid (show ((smV b : Nat) : Int) = (b.toNat : Int) - 48 ∧ smO b = true from ⟨by rw [HV.out.1, if_pos c1]; omega, by rw [HV.out.2]; simp [c1]⟩); obtain ⟨a1, a2⟩ := c1; go_enter Tryz.func228, Tryz.ntmps228; go_wp2_with fail
    all_goals
      go_ret2; exact ⟨by rw [HF.out.1, HF.out.2]; rfl, rfl⟩
  by_cases c2 : 97 ≤ b.toNat ∧ b.toNat ≤ 102
  · have HF := Lib.hid (show ((smV b : Nat) : Int) = (b.toNat : Int) - 97 + 10 ∧ smO b = true from ⟨by rw [HV.out.1, if_neg c1, if_pos c2]; omega, by rw [HV.out.2]; simp [c2]⟩); obtain ⟨a1, a2⟩ := c2; have n1 : ¬ b.toNat ≤ 57 := by omega
    have n2 : 48 ≤ b.toNat := by omega
    clear c1; go_enter Tryz.func228, Tryz.ntmps228; go_wp2_with fail
    all_goals
      go_ret2; exact ⟨by rw [HF.out.1, HF.out.2]; rfl, rfl⟩
  · have HF := Lib.hid (show ((smV b : Nat) : Int) = 0 ∧ smO b = false from ⟨by rw [HV.out.1, if_neg c1, if_neg c2]; rfl, by rw [HV.out.2, decide_eq_false c1, decide_eq_false c2]; rfl⟩); by_cases d1 : 48 ≤ b.toNat
    · have d2 : ¬ b.toNat ≤ 57 := fun h => c1 ⟨d1, h⟩
      by_cases d3 : 97 ≤ b.toNat
      · have d4 : ¬ b.toNat ≤ 102 := fun h => c2 ⟨d3, h⟩
        clear c1 c2; go_enter Tryz.func228, Tryz.ntmps228; go_wp2_with fail
        all_goals
          go_ret2; exact ⟨by rw [HF.out.1, HF.out.2]; rfl, rfl⟩
      · clear c1 c2; go_enter Tryz.func228, Tryz.ntmps228; go_wp2_with fail
        all_goals
          go_ret2; exact ⟨by rw [HF.out.1, HF.out.2]; rfl, rfl⟩
    · have d3 : ¬ 97 ≤ b.toNat := by omega
      clear c1 c2; go_enter Tryz.func228, Tryz.ntmps228; go_wp2_with fail
      all_goals
        go_ret2; exact ⟨by rw [HF.out.1, HF.out.2]; rfl, rfl⟩
theorem nat_mod2 (m : Nat) : (m : Int).tmod 2 = ((m % 2 : Nat) : Int) ∧ (m : Int) % 2 = ((m % 2 : Nat) : Int) := ⟨by rw [Int.tmod_eq_emod_of_nonneg (by omega)]; omega, by omega⟩
theorem nat_div2 (m : Nat) : (m : Int).tdiv 2 = ((m / 2 : Nat) : Int) ∧ (m : Int) / 2 = ((m / 2 : Nat) : Int) := ⟨by rw [Int.tdiv_eq_ediv_of_nonneg (by omega)]; omega, by omega⟩
def unhexOut (o : Option (List UInt8)) : Ending := .returned (.tuple #[.string (S (o.getD [])), .int .i64 (if o.isSome then 0 else 3)])
theorem drop_two {s : List UInt8} {m : Nat} {a b : UInt8} (ha : s[m]? = some a) (hb : s[m + 1]? = some b) : s.drop m = a :: b :: s.drop (m + 2) := by
  obtain ⟨h1, h2⟩ := List.getElem?_eq_some_iff.1 ha; obtain ⟨h3, h4⟩ := List.getElem?_eq_some_iff.1 hb; rw [List.drop_eq_getElem_cons h1, List.drop_eq_getElem_cons h3, h2, h4]
set_option maxRecDepth 100000 in
set_option maxHeartbeats 4000000 in
theorem hexa_Unhex (s : List UInt8) (w : World) (hs : s.length ≤ 1048576) :
    Calls Tryz.prog 206 #[.string (S s)] w fun e w' => e = unhexOut (unhexM s) ∧ Keep [] w w' := by
  have hsz := S_size s; obtain ⟨i0, hi, hz0, hz1, hz2⟩ := info_parts u8info; have HI := Lib.hid (And.intro hi (And.intro hz0 (And.intro hz1 hz2))); obtain ⟨m1, m2⟩ := nat_mod2 s.length; obtain ⟨d1, d2⟩ := nat_div2 s.length; by_cases hodd : s.length % 2 = 0
  · rw [hodd] at m1 m2; obtain ⟨hf, hhf⟩ : ∃ h, s.length / 2 = h := ⟨_, rfl⟩
    rw [hhf] at d1 d2; have hle : hf ≤ 1048576 := by omega
    have HODD := Lib.hid hodd; have HM := Lib.hid (show ∀ w' : World, w'.ownsRow w.heap.size 5 1 (.slice (some ⟨w.heap.size, 0, none⟩) 0 hf) 0 [] → w.grownBy w' none → Own byteC 1 w.heap.size 5 w' (.slice (some ⟨w.heap.size, 0, none⟩) 0 hf) [] ∧ Keep [] w w' from fun w' h1 h2 => ⟨h1, (Keep.refl [] w).grown h2 (fun k hk => by cases hk)⟩); clear hodd hhf; go_enter Tryz.func206, Tryz.ntmps206
    go_wp2_with (first
      | (with_reducible (show wpList _ _ _ ((⟨_, .makeSlice _ _ _, _, _, _, none⟩ : Oper) :: _) _ _)
         refine wpList_make_own _ rfl _ _ 143 rfl w.heap.size 5 i0 _ 1 Tryz.underlying143 hi hz0 hz1 .i64 .i64 _ hf rfl rfl (by omega) (by rw [hz2]; omega) (by unfold maxLen; omega) (Nat.le_refl _) ?_; intro w1 hr1 hg1; have HO := Lib.hid (HM.out w1 hr1 hg1); clear hr1 hg1; try simp only [Act.put, sqA, sqB, sqC])
      | fail)
    clear hi hz0 hz1 hz2 m1 m2 d1 d2
    go_loopg [4, 5] s.length (fun g v i wr => ∃ (m : Nat) (acc : List UInt8), i = .int .i64 (m : Nat) ∧ m ≤ s.length ∧ g = s.length - m ∧ Hid (m = 2 * acc.length) ∧ Hid (unhexM s = (unhexM (s.drop m)).map (acc ++ ·)) ∧ Hid (Own byteC 1 w.heap.size 5 wr v acc) ∧ Hid (Keep [] w wr))
    case atStart => exact ⟨0, [], rfl, Nat.zero_le _, rfl, Lib.hid rfl, Lib.hid (by cases h : unhexM s <;> simp [h]), Lib.hid HO.out.1, Lib.hid HO.out.2⟩
    case round =>
      obtain ⟨m, acc, rfl, hm, hg, HM2, HU, HOw, HK⟩ := hrel; by_cases hlt : m < s.length
      · have hm2 := HM2.out; have hod := HODD.out; have hlt2 : m + 1 < s.length := by omega
        obtain ⟨a, ha⟩ : ∃ a, s[m]? = some a := ⟨_, List.getElem?_eq_getElem hlt⟩
        obtain ⟨b, hb⟩ : ∃ b, s[m + 1]? = some b := ⟨_, List.getElem?_eq_getElem hlt2⟩
        have hga := S_get ha; have hgb := S_get hb; have HA := Lib.hid (fun w' => hexa_small a w'); have HB := Lib.hid (fun w' => hexa_small b w'); have HD := Lib.hid (drop_two ha hb); have hva := smV_lt a; have hvb := smV_lt b; have wk := IntWalk.i64_in ((m : Int) + 2) (by omega); have wk1 := IntWalk.i64_in ((m : Int) + 1) (by omega); have n1 : ((m : Int) + 1).toNat = m + 1 := by omega
        have i1 : (0 : Int) ≤ (m : Int) + 1 := by omega
        have i2 : (m : Int) + 1 < (s.length : Int) := by omega
        have HUn := Lib.hid (show unhexM (a :: b :: s.drop (m + 2)) = if smO a && smO b then (unhexM (s.drop (m + 2))).map (fun o => UInt8.ofNat (16 * smV a + smV b) :: o) else none from by rw [unhexM]); have HZ := Lib.hid (ofNat_two hva hvb); have ho := or16 hva hvb; generalize smV a = va at *; generalize smV b = vb at *; clear ha hb hm2 hod
        cases hoa : smO a with
        | false =>
          rw [hoa] at HA HUn; have HR := Lib.hid (show unhexM s = none by rw [HU.out, HD.out, HUn.out]; rfl); go_wp2_with fail; refine (HA.out _).mono ?_; rintro e w5 ⟨rfl, rfl⟩; go_wp2_with fail; refine (HB.out _).mono ?_; rintro e w6 ⟨rfl, rfl⟩; go_wp2_with fail; go_ret2; exact ⟨by rw [HR.out]; rfl, HK.out⟩
        | true =>
          cases hob : smO b with
          | false =>
            rw [hoa] at HA HUn; rw [hob] at HB HUn; have HR := Lib.hid (show unhexM s = none by rw [HU.out, HD.out, HUn.out]; rfl); go_wp2_with fail; refine (HA.out _).mono ?_; rintro e w5 ⟨rfl, rfl⟩; go_wp2_with fail; refine (HB.out _).mono ?_; rintro e w6 ⟨rfl, rfl⟩; go_wp2_with fail; go_ret2; exact ⟨by rw [HR.out]; rfl, HK.out⟩
          | true =>
            rw [hoa] at HA HUn; rw [hob] at HB HUn
            have HR := Lib.hid (show unhexM s = (unhexM (s.drop (m + 2))).map ((acc ++ [UInt8.ofNat (16 * va + vb)]) ++ ·) by
              rw [HU.out, HD.out, HUn.out]; cases h : unhexM (s.drop (m + 2)) <;> simp)
            go_wp2_with fail; refine (HA.out _).mono ?_; rintro e w5 ⟨rfl, rfl⟩; go_wp2_with fail; refine (HB.out _).mono ?_; rintro e w6 ⟨rfl, rfl⟩; have hlen : acc.length + 1 ≤ 1048576 := by have := HM2.out; omega
            go_wp2_with (first
              | (at_builtin
                 go_must (refine wpList_append1 rfl _ _ 143 rfl i0 (.int .u8 0) 1 Tryz.underlying143 HI rfl (by decide) byteC_length byteC_one w wr rfl HK.out (by rfl) HOw.out (UInt8.ofNat (16 * va + vb)) _ (by simp only [byteC, HZ.out]; push_cast; rfl) _ rfl (by unfold maxLen; omega) (by omega) ?_); intro v' w7 hown' hk' hg')
              | fail)
            go_roundg (s.length - (m + 2))
            case measure => omega
            case rel => exact ⟨m + 2, _, by go_num, by omega, rfl, Lib.hid (by have := HM2.out; simp; omega), HR, Lib.hid hown', Lib.hid hk'⟩
      · have hme : s.drop m = [] := List.drop_eq_nil_of_le (by omega); have HR := Lib.hid (show unhexM s = some acc by rw [HU.out, hme]; simp [unhexM]); have hback := own_back (P := Tryz.prog) HOw.out 143 9 Tryz.underlying143 Tryz.underlying5 Tryz.underlying9; clear hme; go_wp2_with fail; go_ret2; exact ⟨by rw [HR.out]; rfl, HK.out⟩
  · have h1 : s.length % 2 = 1 := by omega
    have HR := Lib.hid (unhex_odd s hodd); rw [h1] at m1 m2; clear hodd hi hz0 hz1 hz2 d1 d2 h1; go_enter Tryz.func206, Tryz.ntmps206; go_wp2_with fail; go_ret2; exact ⟨by rw [HR.out]; rfl, Keep.refl _ _⟩
end Go.Proofs.YtlhnjkekjbbhcaaGreatDoor
