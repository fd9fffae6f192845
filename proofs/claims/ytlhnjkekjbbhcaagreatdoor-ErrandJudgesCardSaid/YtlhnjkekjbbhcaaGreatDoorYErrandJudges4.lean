/- Parts of the proof of ErrandJudges, in order. No conditions but those that each theorem states. -/
import Derived.Test.YtlhnjkekjbbhcaaGreatDoorYErrandJudges0
import Derived.Test.YtlhnjkekjbbhcaaGreatDoorYErrandJudges2
namespace Go.Proofs.YtlhnjkekjbbhcaaGreatDoor
open Go.RowKit Go.Shelf
def digB16 : List UInt8 := [48, 49, 50, 51, 52, 53, 54, 55, 56, 57, 97, 98, 99, 100, 101, 102]
def dgH (n : Nat) : UInt8 := digB16.getD n 0
def hexS (l : List UInt8) : List UInt8 := l.flatMap fun b => [dgH (b.toNat / 16), dgH (b.toNat % 16)]
theorem hexS_len : ∀ l : List UInt8, (hexS l).length = 2 * l.length
  | [] => rfl
  | b :: l => by
    have e : hexS (b :: l) = [dgH (b.toNat / 16), dgH (b.toNat % 16)] ++ hexS l := rfl; rw [e, List.length_append, hexS_len l]; simp; omega
theorem hexS_snoc (l : List UInt8) (b : UInt8) : hexS (l ++ [b]) = hexS l ++ [dgH (b.toNat / 16), dgH (b.toNat % 16)] := by unfold hexS; simp
theorem dgH_get {n : Nat} (h : n < 16) : ∀ hk : n < (⟨#[48, 49, 50, 51, 52, 53, 54, 55, 56, 57, 97, 98, 99, 100, 101, 102]⟩ : ByteArray).size, (⟨#[48, 49, 50, 51, 52, 53, 54, 55, 56, 57, 97, 98, 99, 100, 101, 102]⟩ : ByteArray)[n] = dgH n := by
  have key : ∀ n : Fin 16, ∀ hk : n.1 < (⟨#[48, 49, 50, 51, 52, 53, 54, 55, 56, 57, 97, 98, 99, 100, 101, 102]⟩ : ByteArray).size, (⟨#[48, 49, 50, 51, 52, 53, 54, 55, 56, 57, 97, 98, 99, 100, 101, 102]⟩ : ByteArray)[n.1] = dgH n.1 := by decide +kernel
  exact key ⟨n, h⟩
theorem conv_lt (w : World) (E : TypeId) (s : ByteArray) : w.heap.size < (Lib.bytesWorld w E s).heap.size := by rw [Lib.bytesWorld_size]; omega
theorem and15 {n : Nat} (h : n < 256) : bits BinOp.and IntKind.u8 (n : Int) 15 = (n : Int) % 16 := by
  have key : ∀ n : Fin 256, bits BinOp.and IntKind.u8 ((n.1 : Nat) : Int) 15 = ((n.1 : Nat) : Int) % 16 := by decide +kernel
  exact key ⟨n, h⟩
theorem step_appendQ {P : Program} {ops : Array Oper} {o : Oper} {a : Act} {w : World} {K : Act → World → Prop} {Q : Exit → Act → World → Prop} {X : Prop} (hgd : o.guard = none) (s x : Operand) (t : TypeId)
    (ho : o.op = .call { callee := .builtin .append, args := #[s, x], argTypes := #[t, t] })
    {α : Type} {enc : α → List Value} {n base : Nat} {E : TypeId} {L M : List α} {v : Value}
    (i : TypeInfo) (z : Value) (bytes : Nat) (ht : P.underlying t = some (.slice E)) (HI : Hid (P.info? E = some i ∧ i.zero = some z ∧ i.size = n ∧ i.bytes = bytes)) (hzs : z.cells.size = n) (hn0 : 0 < n)
    (hn : ∀ x, (enc x).length = n) (h1 : ∀ x, ∀ u ∈ enc x, u.oneCell' = true) (hb0 : base ≤ w.heap.size)
    (hs : a.eval s = v) (hown : Own enc n base E w v L) (ad : Addr) (c : Nat) (hx : a.eval x = .slice (some ad) M.length c) (hM : ∀ j u, (rows enc M)[j]? = some u → w.cell? (ad.add j) = some u)
    (h63 : L.length + M.length ≤ maxLen) (hbytes : (L.length + M.length) * bytes ≤ 140737488355328)
    (h : ∀ v' w', Own enc n base E w' v' (L ++ M) → w.grownBy w' v.ownBlock → (v'.ownBlock = v.ownBlock ∨ v'.ownBlock = some w.heap.size) → K (a.put o.dst v') w') : if Region.wanted o (yielded ops a.tmps) = true then Oper.wp P o a w K Q else X := by
  rw [if_pos (by simp [Region.wanted, hgd])]
  obtain ⟨v', w', hrun, h2, h3, h4, h5⟩ := run_append_own_at (P := P) w base t o.type E i z n bytes ht HI.out.1 HI.out.2.1 HI.out.2.2.1 HI.out.2.2.2 hzs hn0 v L.length (rows enc L) hown ad M.length c (rows enc M) (by rw [rows_length hn M, Nat.mul_comm]) hM (fun u hu => by
        unfold rows at hu; obtain ⟨l, hl, hu⟩ := List.mem_flatMap.1 hu
        exact h1 l u hu) h63 hbytes hb0
  unfold Oper.wp; simp [execOp, ho, resolve, invoke, builtin, hs, hx, hrun, Result.andThen]; refine h v' w' ?_ h3 h5; unfold Own; have e : rows enc (L ++ M) = rows enc L ++ rows enc M := by simp [rows]
  rw [e, List.length_append]; exact h2
set_option maxRecDepth 100000 in
set_option maxHeartbeats 4000000 in
theorem hexa_Hex (l : List UInt8) (w : World) (hs : l.length ≤ 1048576) :
    Calls Tryz.prog 129 #[.string (S l)] w fun e w' => e = .returned (.string (S (hexS l))) ∧ Keep [] w w' := by
  have hsz := S_size l; obtain ⟨i0, hi, hz0, hz1, hz2⟩ := info_parts u8info; have HI := Lib.hid (And.intro hi (And.intro hz0 (And.intro hz1 hz2))); have wm := IntWalk.i64_in (2 * (l.length : Int)) (by omega); have HM := Lib.hid (show ∀ w' : World, w'.ownsRow w.heap.size 5 1 (.slice (some ⟨w.heap.size, 0, none⟩) 0 (2 * l.length)) 0 [] → w.grownBy w' none → Own byteC 1 w.heap.size 5 w' (.slice (some ⟨w.heap.size, 0, none⟩) 0 (2 * l.length)) (hexS (l.take 0)) ∧ Keep [] w w' from fun w' h1 h2 => ⟨by rw [List.take_zero]; exact h1, (Keep.refl [] w).grown h2 (fun k hk => by cases hk)⟩); go_enter Tryz.func129, Tryz.ntmps129
  go_wp2_with (first
    | (with_reducible (show wpList _ _ _ ((⟨_, .makeSlice _ _ _, _, _, _, none⟩ : Oper) :: _) _ _)
       refine wpList_make_own _ rfl _ _ 143 rfl w.heap.size 5 i0 _ 1 Tryz.underlying143 hi hz0 hz1 .i64 .i64 _ (2 * l.length) rfl rfl (by omega) (by rw [hz2]; omega) (by unfold maxLen; omega) (Nat.le_refl _) ?_; intro w1 hr1 hg1; have ho := HM.out w1 hr1 hg1; have hcv := conv_run w1 (S l); have hcl : ∀ (k : Nat) (c : UInt8), l[k]? = some c → _ := fun k c h => conv_at w1 5 h
       have HC0 := Lib.hid hcl; have hkp := conv_keep w1 5 (S l); have HO := Lib.hid (show Own byteC 1 w.heap.size 5 (Lib.bytesWorld w1 5 (S l)) (.slice (some ⟨w.heap.size, 0, none⟩) 0 (2 * l.length)) (hexS (l.take 0)) ∧ Keep [] w (Lib.bytesWorld w1 5 (S l)) ∧ w.heap.size < w1.heap.size ∧ w1.heap.size < (Lib.bytesWorld w1 5 (S l)).heap.size from ⟨ho.1.keep0 hkp, ho.2.trans hkp, (ho.1.lt w.heap.size rfl).2, conv_lt w1 5 (S l)⟩); clear hr1 hg1 ho hkp hcl; generalize Lib.bytesWorld w1 5 (S l) = wb at hcv HC0 HO; try simp only [Act.put, sqA, sqB, sqC])
    | fail)
  go_loopg [3, 13] l.length (fun g v i wr => ∃ k : Nat, i = .int .i64 (k : Nat) ∧ k ≤ l.length ∧ g = l.length - k ∧ Hid (Own byteC 1 w.heap.size 5 wr v (hexS (l.take k))) ∧ Hid (Keep [] w wr) ∧ Hid ((∀ (k : Nat) (c : UInt8), l[k]? = some c → wr.cell? ⟨w1.heap.size, k, none⟩ = some (.int .u8 c.toNat)) ∧ (∀ g, v.ownBlock = some g → g ≠ w1.heap.size) ∧ w1.heap.size < wr.heap.size))
  case atStart => exact ⟨0, rfl, Nat.zero_le _, rfl, Lib.hid HO.out.1, Lib.hid HO.out.2.1, Lib.hid ⟨HC0.out, fun g hg => by have e3 : w.heap.size = g := (by simpa [Value.ownBlock] using hg); have := HO.out.2.2.1; omega, HO.out.2.2.2⟩⟩
  case round =>
    obtain ⟨k, rfl, hk, hg, HOw, HK, HC⟩ := hrel; by_cases hlt : k < l.length
    · obtain ⟨c, hc⟩ : ∃ c, l[k]? = some c := ⟨_, List.getElem?_eq_getElem hlt⟩
      have a0 := HC.out.1 k c hc; have c8 := u8_nat c; have HCc := Lib.hid hc; have wk := IntWalk.i64_in ((k : Int) + 1) (by omega); clear hc; have e1 := dgH_get (n := c.toNat / 16) (by omega); have e2 := dgH_get (n := c.toNat % 16) (by omega); have ha := and15 c8; have f0 : (0 : Int) ≤ (c.toNat : Int) / 16 := by omega
      have f1 : (c.toNat : Int) / 16 < 16 := by omega
      have f2 : ((c.toNat : Int) / 16).toNat = c.toNat / 16 := by omega
      have f3 : (0 : Int) ≤ (c.toNat : Int) % 16 := by omega
      have f4 : (c.toNat : Int) % 16 < 16 := by omega
      have f5 : ((c.toNat : Int) % 16).toNat = c.toNat % 16 := by omega
      go_wp2_with fail; refine wp_region_any (by kernel_rfl) ?_; change wpAny _ _ _ _ _ _ _ (World.drew _); refine wpAny_take (i := 0) (v := ?_) rfl (by kernel_rfl) (by kernel_rfl) (by kernel_rfl) (fun _ _ _ h => h) (Or.inl ⟨by rfl, ?_⟩) ?_; rotate_left
      · (intro w; go_simp) <;> (with_reducible rfl)
      (try simp only [Act.put, sqA]); refine wpAny_take (i := 1) (v := ?_) rfl (by kernel_rfl) (by kernel_rfl) (by kernel_rfl) (fun _ _ _ h => h) (Or.inl ⟨by rfl, ?_⟩) ?_; rotate_left
      · (intro w; go_simp) <;> (with_reducible rfl)
      (try simp only [Act.put]); refine wpAny_take (i := 2) (v := .int .u8 ((c.toNat / 16 : Nat) : Int)) rfl (by kernel_rfl) (by kernel_rfl) (by kernel_rfl) (fun _ _ _ h => h) (Or.inl ⟨by rfl, ?_⟩) ?_
      · intro w; go_simp
      (try simp only [Act.put]); refine wpAny_take (i := 3) (v := .int .u8 ((dgH (c.toNat / 16)).toNat : Int)) rfl (by kernel_rfl) (by kernel_rfl) (by kernel_rfl) (fun _ _ _ h => h) (Or.inl ⟨by rfl, ?_⟩) ?_
      · intro w; go_simp
      (try simp only [Act.put]); refine wpAny_take (i := 4) (v := ?_) rfl (by kernel_rfl) (by kernel_rfl) (by kernel_rfl) (fun _ _ _ h => h) (Or.inl ⟨by rfl, ?_⟩) ?_; rotate_left
      · (intro w; go_simp) <;> (with_reducible rfl)
      (try simp only [Act.put]); refine wpAny_take (i := 5) (v := .int .u8 ((c.toNat % 16 : Nat) : Int)) rfl (by kernel_rfl) (by kernel_rfl) (by kernel_rfl) (fun _ _ _ h => h) (Or.inl ⟨by rfl, ?_⟩) ?_
      · intro w; go_simp
      (try simp only [Act.put]); refine wpAny_take (i := 6) (v := .int .u8 ((dgH (c.toNat % 16)).toNat : Int)) rfl (by kernel_rfl) (by kernel_rfl) (by kernel_rfl) (fun _ _ _ h => h) (Or.inl ⟨by rfl, ?_⟩) ?_
      · intro w; go_simp
      (try simp only [Act.put]); refine wpAny_ready (rs := [7]) (by kernel_rfl) (by simp) ?_; refine AllReady.cons (o := _) rfl (fun K hK => ?_) ?_
      · go_simp; refine hK _ _ ?_; clear hK K; (try simp only [Act.put, sqA, sqC, sqB]); have kD : Keep [] wr (wr.drew.alloc (.cells #[.int .u8 ((dgH (c.toNat / 16)).toNat : Int), .int .u8 ((dgH (c.toNat % 16)).toNat : Int)] 5)) := ((Keep.refl [] wr).drew).alloc _; have HD := Lib.hid kD; have HOD := Lib.hid (HOw.out.keep0 kD); have hsd : (World.drew wr).heap.size = wr.heap.size := rfl
        have hM : ∀ j u, (rows byteC [dgH (c.toNat / 16), dgH (c.toNat % 16)])[j]? = some u → (wr.drew.alloc (.cells #[.int .u8 ((dgH (c.toNat / 16)).toNat : Int), .int .u8 ((dgH (c.toNat % 16)).toNat : Int)] 5)).cell? ((⟨wr.heap.size, 0, none⟩ : Addr).add j) = some u := by
          intro j u hj; have hA : Blk (wr.drew.alloc (.cells #[.int .u8 ((dgH (c.toNat / 16)).toNat : Int), .int .u8 ((dgH (c.toNat % 16)).toNat : Int)] 5)) wr.drew.heap.size 5 [.int .u8 ((dgH (c.toNat / 16)).toNat : Int), .int .u8 ((dgH (c.toNat % 16)).toNat : Int)] := Blk.newA wr.drew #[.int .u8 ((dgH (c.toNat / 16)).toNat : Int), .int .u8 ((dgH (c.toNat % 16)).toNat : Int)] _; have e1 : rows byteC [dgH (c.toNat / 16), dgH (c.toNat % 16)] = [.int .u8 ((dgH (c.toNat / 16)).toNat : Int), .int .u8 ((dgH (c.toNat % 16)).toNat : Int)] := by simp [rows, byteC]
          rw [e1] at hj; have e2 : (⟨wr.heap.size, 0, none⟩ : Addr).add j = ⟨wr.drew.heap.size, j, none⟩ := by rw [hsd]; unfold Addr.add; split <;> simp_all
          rw [e2, hA.cell j]; exact hj
        have HMc := Lib.hid hM; have hll := hexS_len (l.take k); rw [List.length_take, Nat.min_eq_left hk] at hll; have HLL := Lib.hid hll
        have HCK := Lib.hid (fun (w3 : World) (v3 : Value) (hg3 : (wr.drew.alloc (.cells #[.int .u8 ((dgH (c.toNat / 16)).toNat : Int), .int .u8 ((dgH (c.toNat % 16)).toNat : Int)] 5)).grownBy w3 u3.ownBlock) (ha3 : v3.ownBlock = u3.ownBlock ∨ v3.ownBlock = some (wr.drew.alloc (.cells #[.int .u8 ((dgH (c.toNat / 16)).toNat : Int), .int .u8 ((dgH (c.toNat % 16)).toNat : Int)] 5)).heap.size) =>
          show Keep [] w w3 ∧ (∀ (k : Nat) (c : UInt8), l[k]? = some c → w3.cell? ⟨w1.heap.size, k, none⟩ = some (.int .u8 c.toNat)) ∧ (∀ g, v3.ownBlock = some g → g ≠ w1.heap.size) ∧ w1.heap.size < w3.heap.size from
          have h0 := HC.out.2.2; have h1 := HD.out.size; have h2 := hg3.size
          ⟨(HK.out.trans HD.out).grown hg3 (fun q hq hlt => by have := (HOw.out.lt q hq).1; omega),
            fun k c h => by
              have e1 := hg3.block w1.heap.size (by omega) (fun e => HC.out.2.1 _ e.symm rfl); have e2 := HD.out.block w1.heap.size h0 (by simp); have e3 := HC.out.1 k c h; unfold World.cell? at e3 ⊢; dsimp only at e3 ⊢; rw [e1, e2]; exact e3,
            fun g hg => by
              rcases ha3 with e | e
              · rw [e] at hg; exact HC.out.2.1 g hg
              · rw [e] at hg; have : (wr.drew.alloc (.cells #[.int .u8 ((dgH (c.toNat / 16)).toNat : Int), .int .u8 ((dgH (c.toNat % 16)).toNat : Int)] 5)).heap.size = g := by simpa using hg
                omega,
            by omega⟩)
        have HSN := Lib.hid (hexS_snoc (l.take k) c); have HTK := Lib.hid (take_snoc HCc.out); clear kD hM hll; refine wpAny_ready (rs := [8]) (by kernel_rfl) (by simp) ?_; refine AllReady.cons (o := _) rfl (fun K hK => ?_) ?_
        · refine step_appendQ rfl (.tmp 17) (.tmp 24) 143 rfl i0 (.int .u8 0) 1 Tryz.underlying143 HI rfl (by decide) byteC_length byteC_one (base := w.heap.size) (Nat.le_trans HK.out.size HD.out.size) (by rfl) HOD.out ⟨wr.heap.size, 0, none⟩ 2 (M := [dgH (c.toNat / 16), dgH (c.toNat % 16)]) (by rfl) HMc.out (by have := HLL.out; simp; unfold maxLen; omega) (by have := HLL.out; simp; omega) ?_; intro v3 w3 hown3 hg3 ha3; have hx3 := HCK.out w3 v3 hg3 ha3; have HO3 := Lib.hid (show Own byteC 1 w.heap.size 5 w3 v3 (hexS (l.take (k + 1))) by rw [HTK.out, HSN.out]; exact hown3); have HK3 := Lib.hid hx3.1; have HC3 := Lib.hid hx3.2; clear hown3 hg3 ha3 hx3; refine hK _ _ ?_; clear hK K; (try simp only [Act.put, sqA]); refine wpAny_take (i := 9) (v := ?_) rfl (by kernel_rfl) (by kernel_rfl) (by kernel_rfl) (fun _ _ _ h => h) (Or.inl ⟨by rfl, ?_⟩) ?_; rotate_left
          · (intro w; go_simp) <;> (with_reducible rfl)
          (try simp only [Act.put]); refine wpAny_done (by kernel_rfl) ?_ _; go_wp2_with fail
          go_roundg (l.length - (k + 1))
          case measure => omega
          case rel => exact ⟨k + 1, by go_num, by omega, rfl, HO3, HK3, HC3⟩
        · exact AllReady.nil
      · exact AllReady.nil
    · have hke : l.take k = l := List.take_of_length_le (by omega); have ho := HOw.out; rw [hke] at ho; have hback := own_back (P := Tryz.prog) ho 143 9 Tryz.underlying143 Tryz.underlying5 Tryz.underlying9; clear hke ho; go_wp2_with fail; go_ret; exact ⟨rfl, HK.out⟩
def smO (b : UInt8) : Bool := decide (48 ≤ b.toNat ∧ b.toNat ≤ 57) || decide (97 ≤ b.toNat ∧ b.toNat ≤ 102)
def smV (b : UInt8) : Nat := if 48 ≤ b.toNat ∧ b.toNat ≤ 57 then b.toNat - 48 else if 97 ≤ b.toNat ∧ b.toNat ≤ 102 then b.toNat - 87 else 0
def unhexM : List UInt8 → Option (List UInt8)
  | [] => some []
  | [_] => none
  | a :: b :: r => if smO a && smO b then (unhexM r).map (fun o => UInt8.ofNat (16 * smV a + smV b) :: o) else none
theorem smV_lt (b : UInt8) : smV b < 16 := by unfold smV; split; (omega); split <;> omega
theorem all_u8 {p : UInt8 → Prop} (h : ∀ n : Fin 256, p (UInt8.ofNat n.1)) (b : UInt8) : p b := by
  have := h ⟨b.toNat, b.toNat_lt⟩; simpa using this
theorem dg_sm (b : UInt8) : smO b = true → dgH (smV b) = b := by
  have key : ∀ n : Fin 256, smO (UInt8.ofNat n.1) = true → dgH (smV (UInt8.ofNat n.1)) = UInt8.ofNat n.1 := by decide +kernel
  exact all_u8 (p := fun b => smO b = true → dgH (smV b) = b) key b
theorem sm_dg {n : Nat} (h : n < 16) : smO (dgH n) = true ∧ smV (dgH n) = n := by
  have key : ∀ n : Fin 16, smO (dgH n.1) = true ∧ smV (dgH n.1) = n.1 := by decide +kernel
  exact key ⟨n, h⟩
theorem ofNat_two {a b : Nat} (ha : a < 16) (hb : b < 16) : (UInt8.ofNat (16 * a + b)).toNat = 16 * a + b := by
  rw [UInt8.toNat_ofNat']; omega
theorem unhex_hex : ∀ o : List UInt8, unhexM (hexS o) = some o
  | [] => rfl
  | x :: o => by
    have e : hexS (x :: o) = dgH (x.toNat / 16) :: dgH (x.toNat % 16) :: hexS o := rfl; have hx := x.toNat_lt; obtain ⟨h1, h2⟩ := sm_dg (n := x.toNat / 16) (by omega); obtain ⟨h3, h4⟩ := sm_dg (n := x.toNat % 16) (by omega); rw [e]; unfold unhexM; rw [h1, h3, h2, h4, unhex_hex o]; have : 16 * (x.toNat / 16) + x.toNat % 16 = x.toNat := by omega
    simp [this]
theorem hex_unhex : ∀ (s o : List UInt8), unhexM s = some o → hexS o = s
  | [], o, h => by
    have : o = [] := by simpa [unhexM] using h.symm
    rw [this]; rfl
  | [_], o, h => by simp [unhexM] at h
  | a :: b :: r, o, h => by
    unfold unhexM at h
    split at h
    · rename_i hab; simp only [Bool.and_eq_true] at hab
      cases hr : unhexM r with
      | none => rw [hr] at h; cases h
      | some q =>
        rw [hr] at h; have hq := hex_unhex r q hr; have : o = UInt8.ofNat (16 * smV a + smV b) :: q := by simpa using h.symm
        rw [this]; have e : hexS (UInt8.ofNat (16 * smV a + smV b) :: q) = dgH ((UInt8.ofNat (16 * smV a + smV b)).toNat / 16) :: dgH ((UInt8.ofNat (16 * smV a + smV b)).toNat % 16) :: hexS q := rfl; have ha := smV_lt a; have hb := smV_lt b; rw [e, ofNat_two ha hb, hq, show (16 * smV a + smV b) / 16 = smV a by omega, show (16 * smV a + smV b) % 16 = smV b by omega, dg_sm a hab.1, dg_sm b hab.2]
    · cases h
theorem unhex_len : ∀ (s o : List UInt8), unhexM s = some o → s.length = 2 * o.length := fun s o h => by
  rw [← hex_unhex s o h, hexS_len]
theorem unhex_odd : ∀ s : List UInt8, s.length % 2 ≠ 0 → unhexM s = none := fun s h => by
  cases hu : unhexM s with
  | none => rfl
  | some o => have := unhex_len s o hu; omega
theorem or16 {a b : Nat} (ha : a < 16) (hb : b < 16) : bits BinOp.or IntKind.i64 ((a : Int) * 16) (b : Int) = (16 * a + b : Nat) := by
  have key : ∀ a b : Fin 16, bits BinOp.or IntKind.i64 (((a.1 : Nat) : Int) * 16) ((b.1 : Nat) : Int) = ((16 * a.1 + b.1 : Nat) : Int) := by decide +kernel
  exact key ⟨a, ha⟩ ⟨b, hb⟩
set_option maxRecDepth 100000 in
set_option maxHeartbeats 2000000 in
theorem hexa_small (b : UInt8) (w : World) :
    Calls Tryz.prog 228 #[.int .u8 b.toNat] w fun e w' => e = .returned (.tuple #[.int .i64 (smV b : Nat), .bool (smO b)]) ∧ w = w' := by
  have hb := u8_nat b; have hV : smV b = if 48 ≤ b.toNat ∧ b.toNat ≤ 57 then b.toNat - 48 else if 97 ≤ b.toNat ∧ b.toNat ≤ 102 then b.toNat - 87 else 0 := rfl
  have hO : smO b = (decide (48 ≤ b.toNat ∧ b.toNat ≤ 57) || decide (97 ≤ b.toNat ∧ b.toNat ≤ 102)) := rfl; have HV := Lib.hid (And.intro hV hO); clear hV hO; by_cases c1 : 48 ≤ b.toNat ∧ b.toNat ≤ 57
  · have HF := Lib.hid (show ((smV b : Nat) : Int) = (b.toNat : Int) - 48 ∧ smO b = true from ⟨by rw [HV.out.1, if_pos c1]; omega, by rw [HV.out.2]; simp [c1]⟩); obtain ⟨a1, a2⟩ := c1; go_enter Tryz.func228, Tryz.ntmps228; go_wp2_with fail
    all_goals
      go_ret2; exact ⟨by rw [HF.out.1, HF.out.2]; rfl, rfl⟩
  by_cases c2 : 97 ≤ b.toNat ∧ b.toNat ≤ 102
  · have HF := Lib.hid (show ((smV b : Nat) : Int) = (b.toNat : Int) - 97 + 10 ∧ smO b = true from ⟨by rw [HV.out.1, if_neg c1, if_pos c2]; omega, by rw [HV.out.2]; simp [c2]⟩); obtain ⟨a1, a2⟩ := c2; have n1 : ¬ b.toNat ≤ 57 := by omega
    have n2 : 48 ≤ b.toNat := by omega
    clear c1; go_enter Tryz.func228, Tryz.ntmps228; go_wp2_with fail
    all_goals
      go_ret2; exact ⟨by rw [HF.out.1, HF.out.2]; rfl, rfl⟩
  · have HF := Lib.hid (show ((smV b : Nat) : Int) = 0 ∧ smO b = false from ⟨by rw [HV.out.1, if_neg c1, if_neg c2]; rfl, by rw [HV.out.2, decide_eq_false c1, decide_eq_false c2]; rfl⟩); by_cases d1 : 48 ≤ b.toNat
    · have d2 : ¬ b.toNat ≤ 57 := fun h => c1 ⟨d1, h⟩
      by_cases d3 : 97 ≤ b.toNat
      · have d4 : ¬ b.toNat ≤ 102 := fun h => c2 ⟨d3, h⟩
        clear c1 c2; go_enter Tryz.func228, Tryz.ntmps228; go_wp2_with fail
        all_goals
          go_ret2; exact ⟨by rw [HF.out.1, HF.out.2]; rfl, rfl⟩
      · clear c1 c2; go_enter Tryz.func228, Tryz.ntmps228; go_wp2_with fail
        all_goals
          go_ret2; exact ⟨by rw [HF.out.1, HF.out.2]; rfl, rfl⟩
    · have d3 : ¬ 97 ≤ b.toNat := by omega
      clear c1 c2; go_enter Tryz.func228, Tryz.ntmps228; go_wp2_with fail
      all_goals
        go_ret2; exact ⟨by rw [HF.out.1, HF.out.2]; rfl, rfl⟩
theorem nat_mod2 (m : Nat) : (m : Int).tmod 2 = ((m % 2 : Nat) : Int) ∧ (m : Int) % 2 = ((m % 2 : Nat) : Int) := ⟨by rw [Int.tmod_eq_emod_of_nonneg (by omega)]; omega, by omega⟩
theorem nat_div2 (m : Nat) : (m : Int).tdiv 2 = ((m / 2 : Nat) : Int) ∧ (m : Int) / 2 = ((m / 2 : Nat) : Int) := ⟨by rw [Int.tdiv_eq_ediv_of_nonneg (by omega)]; omega, by omega⟩
def unhexOut (o : Option (List UInt8)) : Ending := .returned (.tuple #[.string (S (o.getD [])), .int .i64 (if o.isSome then 0 else 3)])
theorem drop_two {s : List UInt8} {m : Nat} {a b : UInt8} (ha : s[m]? = some a) (hb : s[m + 1]? = some b) : s.drop m = a :: b :: s.drop (m + 2) := by
  obtain ⟨h1, h2⟩ := List.getElem?_eq_some_iff.1 ha; obtain ⟨h3, h4⟩ := List.getElem?_eq_some_iff.1 hb; rw [List.drop_eq_getElem_cons h1, List.drop_eq_getElem_cons h3, h2, h4]
set_option maxRecDepth 100000 in
set_option maxHeartbeats 4000000 in
theorem hexa_Unhex (s : List UInt8) (w : World) (hs : s.length ≤ 1048576) :
    Calls Tryz.prog 206 #[.string (S s)] w fun e w' => e = unhexOut (unhexM s) ∧ Keep [] w w' := by
  have hsz := S_size s; obtain ⟨i0, hi, hz0, hz1, hz2⟩ := info_parts u8info; have HI := Lib.hid (And.intro hi (And.intro hz0 (And.intro hz1 hz2))); obtain ⟨m1, m2⟩ := nat_mod2 s.length; obtain ⟨d1, d2⟩ := nat_div2 s.length; by_cases hodd : s.length % 2 = 0
  · rw [hodd] at m1 m2; obtain ⟨hf, hhf⟩ : ∃ h, s.length / 2 = h := ⟨_, rfl⟩
    rw [hhf] at d1 d2; have hle : hf ≤ 1048576 := by omega
    have HODD := Lib.hid hodd; have HM := Lib.hid (show ∀ w' : World, w'.ownsRow w.heap.size 5 1 (.slice (some ⟨w.heap.size, 0, none⟩) 0 hf) 0 [] → w.grownBy w' none → Own byteC 1 w.heap.size 5 w' (.slice (some ⟨w.heap.size, 0, none⟩) 0 hf) [] ∧ Keep [] w w' from fun w' h1 h2 => ⟨h1, (Keep.refl [] w).grown h2 (fun k hk => by cases hk)⟩); clear hodd hhf; go_enter Tryz.func206, Tryz.ntmps206
    go_wp2_with (first
      | (with_reducible (show wpList _ _ _ ((⟨_, .makeSlice _ _ _, _, _, _, none⟩ : Oper) :: _) _ _)
         refine wpList_make_own _ rfl _ _ 143 rfl w.heap.size 5 i0 _ 1 Tryz.underlying143 hi hz0 hz1 .i64 .i64 _ hf rfl rfl (by omega) (by rw [hz2]; omega) (by unfold maxLen; omega) (Nat.le_refl _) ?_; intro w1 hr1 hg1; have HO := Lib.hid (HM.out w1 hr1 hg1); clear hr1 hg1; try simp only [Act.put, sqA, sqB, sqC])
      | fail)
    clear hi hz0 hz1 hz2 m1 m2 d1 d2
    go_loopg [4, 5] s.length (fun g v i wr => ∃ (m : Nat) (acc : List UInt8), i = .int .i64 (m : Nat) ∧ m ≤ s.length ∧ g = s.length - m ∧ Hid (m = 2 * acc.length) ∧ Hid (unhexM s = (unhexM (s.drop m)).map (acc ++ ·)) ∧ Hid (Own byteC 1 w.heap.size 5 wr v acc) ∧ Hid (Keep [] w wr))
    case atStart => exact ⟨0, [], rfl, Nat.zero_le _, rfl, Lib.hid rfl, Lib.hid (by cases h : unhexM s <;> simp [h]), Lib.hid HO.out.1, Lib.hid HO.out.2⟩
    case round =>
      obtain ⟨m, acc, rfl, hm, hg, HM2, HU, HOw, HK⟩ := hrel; by_cases hlt : m < s.length
      · have hm2 := HM2.out; have hod := HODD.out; have hlt2 : m + 1 < s.length := by omega
        obtain ⟨a, ha⟩ : ∃ a, s[m]? = some a := ⟨_, List.getElem?_eq_getElem hlt⟩
        obtain ⟨b, hb⟩ : ∃ b, s[m + 1]? = some b := ⟨_, List.getElem?_eq_getElem hlt2⟩
        have hga := S_get ha; have hgb := S_get hb; have HA := Lib.hid (fun w' => hexa_small a w'); have HB := Lib.hid (fun w' => hexa_small b w'); have HD := Lib.hid (drop_two ha hb); have hva := smV_lt a; have hvb := smV_lt b; have wk := IntWalk.i64_in ((m : Int) + 2) (by omega); have wk1 := IntWalk.i64_in ((m : Int) + 1) (by omega); have n1 : ((m : Int) + 1).toNat = m + 1 := by omega
        have i1 : (0 : Int) ≤ (m : Int) + 1 := by omega
        have i2 : (m : Int) + 1 < (s.length : Int) := by omega
        have HUn := Lib.hid (show unhexM (a :: b :: s.drop (m + 2)) = if smO a && smO b then (unhexM (s.drop (m + 2))).map (fun o => UInt8.ofNat (16 * smV a + smV b) :: o) else none from by rw [unhexM]); have HZ := Lib.hid (ofNat_two hva hvb); have ho := or16 hva hvb; generalize smV a = va at *; generalize smV b = vb at *; clear ha hb hm2 hod
        cases hoa : smO a with
        | false =>
          rw [hoa] at HA HUn; have HR := Lib.hid (show unhexM s = none by rw [HU.out, HD.out, HUn.out]; rfl); go_wp2_with fail; refine (HA.out _).mono ?_; rintro e w5 ⟨rfl, rfl⟩; go_wp2_with fail; refine (HB.out _).mono ?_; rintro e w6 ⟨rfl, rfl⟩; go_wp2_with fail; go_ret2; exact ⟨by rw [HR.out]; rfl, HK.out⟩
        | true =>
          cases hob : smO b with
          | false =>
            rw [hoa] at HA HUn; rw [hob] at HB HUn; have HR := Lib.hid (show unhexM s = none by rw [HU.out, HD.out, HUn.out]; rfl); go_wp2_with fail; refine (HA.out _).mono ?_; rintro e w5 ⟨rfl, rfl⟩; go_wp2_with fail; refine (HB.out _).mono ?_; rintro e w6 ⟨rfl, rfl⟩; go_wp2_with fail; go_ret2; exact ⟨by rw [HR.out]; rfl, HK.out⟩
          | true =>
            rw [hoa] at HA HUn; rw [hob] at HB HUn
            have HR := Lib.hid (show unhexM s = (unhexM (s.drop (m + 2))).map ((acc ++ [UInt8.ofNat (16 * va + vb)]) ++ ·) by
              rw [HU.out, HD.out, HUn.out]; cases h : unhexM (s.drop (m + 2)) <;> simp)
            go_wp2_with fail; refine (HA.out _).mono ?_; rintro e w5 ⟨rfl, rfl⟩; go_wp2_with fail; refine (HB.out _).mono ?_; rintro e w6 ⟨rfl, rfl⟩; have hlen : acc.length + 1 ≤ 1048576 := by have := HM2.out; omega
            go_wp2_with (first
              | (at_builtin
                 go_must (refine wpList_append1 rfl _ _ 143 rfl i0 (.int .u8 0) 1 Tryz.underlying143 HI rfl (by decide) byteC_length byteC_one w wr rfl HK.out (by rfl) HOw.out (UInt8.ofNat (16 * va + vb)) _ (by simp only [byteC, HZ.out]; push_cast; rfl) _ rfl (by unfold maxLen; omega) (by omega) ?_); intro v' w7 hown' hk' hg')
              | fail)
            go_roundg (s.length - (m + 2))
            case measure => omega
            case rel => exact ⟨m + 2, _, by go_num, by omega, rfl, Lib.hid (by have := HM2.out; simp; omega), HR, Lib.hid hown', Lib.hid hk'⟩
      · have hme : s.drop m = [] := List.drop_eq_nil_of_le (by omega); have HR := Lib.hid (show unhexM s = some acc by rw [HU.out, hme]; simp [unhexM]); have hback := own_back (P := Tryz.prog) HOw.out 143 9 Tryz.underlying143 Tryz.underlying5 Tryz.underlying9; clear hme; go_wp2_with fail; go_ret2; exact ⟨by rw [HR.out]; rfl, HK.out⟩
  · have h1 : s.length % 2 = 1 := by omega
    have HR := Lib.hid (unhex_odd s hodd); rw [h1] at m1 m2; clear hodd hi hz0 hz1 hz2 d1 d2 h1; go_enter Tryz.func206, Tryz.ntmps206; go_wp2_with fail; go_ret2; exact ⟨by rw [HR.out]; rfl, Keep.refl _ _⟩
set_option maxRecDepth 100000 in
set_option maxHeartbeats 4000000 in
theorem ref01_Hex (l : List UInt8) (w : World) (hs : l.length ≤ 1048576) :
    Calls Tryz.prog 139 #[.string (S l)] w fun e w' => e = .returned (.string (S (hexS l))) ∧ Keep [] w w' := by
  have hsz := S_size l; obtain ⟨i0, hi, hz0, hz1, hz2⟩ := info_parts u8info; have HI := Lib.hid (And.intro hi (And.intro hz0 (And.intro hz1 hz2))); clear hi hz0 hz1 hz2; go_enter Tryz.func139, Tryz.ntmps139; go_wp2_with fail
  go_loopg [3, 4] l.length (fun g v i wr => ∃ k : Nat, i = .int .i64 (k : Nat) ∧ k ≤ l.length ∧ g = l.length - k ∧ Hid (Own byteC 1 w.heap.size 5 wr v (hexS (l.take k))) ∧ Hid (Keep [] w wr))
  case atStart => exact ⟨0, rfl, Nat.zero_le _, rfl, Lib.hid (Own.none byteC 1 5 _ (Nat.le_refl _)), Lib.hid ((Keep.refl [] w).alloc _)⟩
  case round =>
    obtain ⟨k, rfl, hk, hg, HOw, HK⟩ := hrel; by_cases hlt : k < l.length
    · obtain ⟨c, hc⟩ : ∃ c, l[k]? = some c := ⟨_, List.getElem?_eq_getElem hlt⟩
      have hget := S_get hc; have c8 := u8_nat c; have HCc := Lib.hid hc; have wk := IntWalk.i64_in ((k : Int) + 1) (by omega); clear hc; have e1 := dgH_get (n := c.toNat / 16) (by omega); have e2 := dgH_get (n := c.toNat % 16) (by omega); have ha := and15 c8; have f0 : (0 : Int) ≤ (c.toNat : Int) / 16 := by omega
      have f1 : (c.toNat : Int) / 16 < 16 := by omega
      have f2 : ((c.toNat : Int) / 16).toNat = c.toNat / 16 := by omega
      have f3 : (0 : Int) ≤ (c.toNat : Int) % 16 := by omega
      have f4 : (c.toNat : Int) % 16 < 16 := by omega
      have f5 : ((c.toNat : Int) % 16).toNat = c.toNat % 16 := by omega
      go_wp2_with fail; refine wp_region_any (by kernel_rfl) ?_; change wpAny _ _ _ _ _ _ _ (World.drew _); refine wpAny_take (i := 0) (v := ?_) rfl (by kernel_rfl) (by kernel_rfl) (by kernel_rfl) (fun _ _ _ h => h) (Or.inl ⟨by rfl, ?_⟩) ?_; rotate_left
      · (intro w; go_simp) <;> (with_reducible rfl)
      (try simp only [Act.put, sqA]); refine wpAny_take (i := 1) (v := ?_) rfl (by kernel_rfl) (by kernel_rfl) (by kernel_rfl) (fun _ _ _ h => h) (Or.inl ⟨by rfl, ?_⟩) ?_; rotate_left
      · (intro w; go_simp) <;> (with_reducible rfl)
      (try simp only [Act.put]); refine wpAny_take (i := 2) (v := ?_) rfl (by kernel_rfl) (by kernel_rfl) (by kernel_rfl) (fun _ _ _ h => h) (Or.inl ⟨by rfl, ?_⟩) ?_; rotate_left
      · (intro w; go_simp) <;> (with_reducible rfl)
      (try simp only [Act.put]); refine wpAny_take (i := 3) (v := .int .u8 ((c.toNat : Nat) : Int)) rfl (by kernel_rfl) (by kernel_rfl) (by kernel_rfl) (fun _ _ _ h => h) (Or.inl ⟨by rfl, ?_⟩) ?_
      · intro w; go_simp
      (try simp only [Act.put]); refine wpAny_take (i := 4) (v := .int .u8 ((c.toNat / 16 : Nat) : Int)) rfl (by kernel_rfl) (by kernel_rfl) (by kernel_rfl) (fun _ _ _ h => h) (Or.inl ⟨by rfl, ?_⟩) ?_
      · intro w; go_simp
      (try simp only [Act.put]); refine wpAny_take (i := 5) (v := .int .u8 ((dgH (c.toNat / 16)).toNat : Int)) rfl (by kernel_rfl) (by kernel_rfl) (by kernel_rfl) (fun _ _ _ h => h) (Or.inl ⟨by rfl, ?_⟩) ?_
      · intro w; go_simp
      (try simp only [Act.put]); refine wpAny_take (i := 6) (v := ?_) rfl (by kernel_rfl) (by kernel_rfl) (by kernel_rfl) (fun _ _ _ h => h) (Or.inl ⟨by rfl, ?_⟩) ?_; rotate_left
      · (intro w; go_simp) <;> (with_reducible rfl)
      (try simp only [Act.put]); refine wpAny_take (i := 7) (v := ?_) rfl (by kernel_rfl) (by kernel_rfl) (by kernel_rfl) (fun _ _ _ h => h) (Or.inl ⟨by rfl, ?_⟩) ?_; rotate_left
      · (intro w; go_simp) <;> (with_reducible rfl)
      (try simp only [Act.put]); refine wpAny_take (i := 8) (v := .int .u8 ((c.toNat : Nat) : Int)) rfl (by kernel_rfl) (by kernel_rfl) (by kernel_rfl) (fun _ _ _ h => h) (Or.inl ⟨by rfl, ?_⟩) ?_
      · intro w; go_simp
      (try simp only [Act.put]); refine wpAny_take (i := 9) (v := .int .u8 ((c.toNat % 16 : Nat) : Int)) rfl (by kernel_rfl) (by kernel_rfl) (by kernel_rfl) (fun _ _ _ h => h) (Or.inl ⟨by rfl, ?_⟩) ?_
      · intro w; go_simp
      (try simp only [Act.put]); refine wpAny_take (i := 10) (v := .int .u8 ((dgH (c.toNat % 16)).toNat : Int)) rfl (by kernel_rfl) (by kernel_rfl) (by kernel_rfl) (fun _ _ _ h => h) (Or.inl ⟨by rfl, ?_⟩) ?_
      · intro w; go_simp
      (try simp only [Act.put]); refine wpAny_ready (rs := [11]) (by kernel_rfl) (by simp) ?_; refine AllReady.cons (o := _) rfl (fun K hK => ?_) ?_
      · go_simp; refine hK _ _ ?_; clear hK K; (try simp only [Act.put, sqA, sqC, sqB]); have kD : Keep [] wr (wr.drew.alloc (.cells #[.int .u8 ((dgH (c.toNat / 16)).toNat : Int), .int .u8 ((dgH (c.toNat % 16)).toNat : Int)] 5)) := ((Keep.refl [] wr).drew).alloc _; have HD := Lib.hid kD; have HOD := Lib.hid (HOw.out.keep0 kD); have hsd : (World.drew wr).heap.size = wr.heap.size := rfl
        have hM : ∀ j u, (rows byteC [dgH (c.toNat / 16), dgH (c.toNat % 16)])[j]? = some u → (wr.drew.alloc (.cells #[.int .u8 ((dgH (c.toNat / 16)).toNat : Int), .int .u8 ((dgH (c.toNat % 16)).toNat : Int)] 5)).cell? ((⟨wr.heap.size, 0, none⟩ : Addr).add j) = some u := by
          intro j u hj; have hA : Blk (wr.drew.alloc (.cells #[.int .u8 ((dgH (c.toNat / 16)).toNat : Int), .int .u8 ((dgH (c.toNat % 16)).toNat : Int)] 5)) wr.drew.heap.size 5 [.int .u8 ((dgH (c.toNat / 16)).toNat : Int), .int .u8 ((dgH (c.toNat % 16)).toNat : Int)] := Blk.newA wr.drew #[.int .u8 ((dgH (c.toNat / 16)).toNat : Int), .int .u8 ((dgH (c.toNat % 16)).toNat : Int)] _; have e1 : rows byteC [dgH (c.toNat / 16), dgH (c.toNat % 16)] = [.int .u8 ((dgH (c.toNat / 16)).toNat : Int), .int .u8 ((dgH (c.toNat % 16)).toNat : Int)] := by simp [rows, byteC]
          rw [e1] at hj; have e2 : (⟨wr.heap.size, 0, none⟩ : Addr).add j = ⟨wr.drew.heap.size, j, none⟩ := by rw [hsd]; unfold Addr.add; split <;> simp_all
          rw [e2, hA.cell j]; exact hj
        have HMc := Lib.hid hM; have hll := hexS_len (l.take k); rw [List.length_take, Nat.min_eq_left hk] at hll; have HLL := Lib.hid hll; have HSN := Lib.hid (hexS_snoc (l.take k) c); have HTK := Lib.hid (take_snoc HCc.out); have HCK := Lib.hid (fun (w3 : World) (hg3 : (wr.drew.alloc (.cells #[.int .u8 ((dgH (c.toNat / 16)).toNat : Int), .int .u8 ((dgH (c.toNat % 16)).toNat : Int)] 5)).grownBy w3 u3.ownBlock) => show Keep [] w w3 from (HK.out.trans HD.out).grown hg3 (fun q hq hlt => by have := (HOw.out.lt q hq).1; omega)); clear kD hM hll; refine wpAny_ready (rs := [12]) (by kernel_rfl) (by simp) ?_; refine AllReady.cons (o := _) rfl (fun K hK => ?_) ?_
        · refine step_appendQ rfl (.tmp 12) (.tmp 23) 143 rfl i0 (.int .u8 0) 1 Tryz.underlying143 HI rfl (by decide) byteC_length byteC_one (base := w.heap.size) (Nat.le_trans HK.out.size HD.out.size) (by rfl) HOD.out ⟨wr.heap.size, 0, none⟩ 2 (M := [dgH (c.toNat / 16), dgH (c.toNat % 16)]) (by rfl) HMc.out (by have := HLL.out; simp; unfold maxLen; omega) (by have := HLL.out; simp; omega) ?_; intro v3 w3 hown3 hg3 _; have HO3 := Lib.hid (show Own byteC 1 w.heap.size 5 w3 v3 (hexS (l.take (k + 1))) by rw [HTK.out, HSN.out]; exact hown3); have HK3 := Lib.hid (HCK.out w3 hg3); clear hown3 hg3; refine hK _ _ ?_; clear hK K; (try simp only [Act.put, sqA]); refine wpAny_take (i := 13) (v := ?_) rfl (by kernel_rfl) (by kernel_rfl) (by kernel_rfl) (fun _ _ _ h => h) (Or.inl ⟨by rfl, ?_⟩) ?_; rotate_left
          · (intro w; go_simp) <;> (with_reducible rfl)
          (try simp only [Act.put]); refine wpAny_done (by kernel_rfl) ?_ _; go_wp2_with fail
          go_roundg (l.length - (k + 1))
          case measure => omega
          case rel => exact ⟨k + 1, by go_num, by omega, rfl, HO3, HK3⟩
        · exact AllReady.nil
      · exact AllReady.nil
    · have hke : l.take k = l := List.take_of_length_le (by omega); have ho := HOw.out; rw [hke] at ho; have hback := own_back (P := Tryz.prog) ho 143 9 Tryz.underlying143 Tryz.underlying5 Tryz.underlying9; clear hke ho; go_wp2_with fail; go_ret; exact ⟨rfl, HK.out⟩
end Go.Proofs.YtlhnjkekjbbhcaaGreatDoor
namespace Go.Proofs.YtlhnjkekjbbhcaaGreatDoor
open Go.RowKit
def digV (b : UInt8) : Int := if 48 ≤ b.toNat ∧ b.toNat ≤ 57 then (b.toNat : Int) - 48 else if 97 ≤ b.toNat ∧ b.toNat ≤ 102 then (b.toNat : Int) - 97 + 10 else if 65 ≤ b.toNat ∧ b.toNat ≤ 70 then (b.toNat : Int) - 65 + 10 else 0
def digOk (b : UInt8) : Bool := decide (48 ≤ b.toNat ∧ b.toNat ≤ 57) || decide (97 ≤ b.toNat ∧ b.toNat ≤ 102) || decide (65 ≤ b.toNat ∧ b.toNat ≤ 70)
theorem digV_range (b : UInt8) : 0 ≤ digV b ∧ digV b ≤ 15 := by
  unfold digV
  split
  · omega
  · split
    · omega
    · split <;> omega
theorem dig_ret {a c : Int} {b d : Bool} (h : a = c) (h2 : b = d) : Ending.returned (.tuple #[.int .i64 a, .bool b]) = .returned (.tuple #[.int .i64 c, .bool d]) := by rw [h, h2]
set_option maxRecDepth 100000 in
set_option maxHeartbeats 1000000 in
theorem hexa_digit (b : UInt8) (w : World) :
    Calls Tryz.prog 239 #[.int .u8 b.toNat] w fun e w' => e = .returned (.tuple #[.int .i64 (digV b), .bool (digOk b)]) ∧ w = w' := by
  have hb := u8_nat b; have hV : digV b = if 48 ≤ b.toNat ∧ b.toNat ≤ 57 then (b.toNat : Int) - 48 else if 97 ≤ b.toNat ∧ b.toNat ≤ 102 then (b.toNat : Int) - 97 + 10 else if 65 ≤ b.toNat ∧ b.toNat ≤ 70 then (b.toNat : Int) - 65 + 10 else 0 := rfl
  have hO : digOk b = (decide (48 ≤ b.toNat ∧ b.toNat ≤ 57) || decide (97 ≤ b.toNat ∧ b.toNat ≤ 102) || decide (65 ≤ b.toNat ∧ b.toNat ≤ 70)) := rfl; generalize digV b = v at hV; generalize digOk b = o at hO; generalize b.toNat = x at *; by_cases h1 : x < 48
  · have HV := Lib.hid (show v = 0 by rw [hV, if_neg (by omega), if_neg (by omega), if_neg (by omega)]); have HO := Lib.hid (show o = false by rw [hO]; simp; omega); clear hV hO; go_enter Tryz.func239, Tryz.ntmps239; go_wp2; go_ret2; exact ⟨dig_ret HV.out.symm HO.out.symm, rfl⟩
  · by_cases h2 : x ≤ 57
    · have HV := Lib.hid (show v = (x : Int) - 48 by rw [hV, if_pos (by omega)]); have HO := Lib.hid (show o = true by rw [hO]; simp; omega); clear hV hO; go_enter Tryz.func239, Tryz.ntmps239; go_wp2; go_ret2; exact ⟨dig_ret HV.out.symm HO.out.symm, rfl⟩
    · by_cases h3 : x < 65
      · have HV := Lib.hid (show v = 0 by rw [hV, if_neg (by omega), if_neg (by omega), if_neg (by omega)]); have HO := Lib.hid (show o = false by rw [hO]; simp; omega); clear hV hO; go_enter Tryz.func239, Tryz.ntmps239; go_wp2; go_ret2; exact ⟨dig_ret HV.out.symm HO.out.symm, rfl⟩
      · by_cases h4 : x ≤ 70
        · have HV := Lib.hid (show v = (x : Int) + 32 - 97 + 10 by rw [hV, if_neg (by omega), if_neg (by omega), if_pos (by omega)]; omega); have HO := Lib.hid (show o = true by rw [hO]; simp; omega); clear hV hO; go_enter Tryz.func239, Tryz.ntmps239; go_wp2; go_ret2; exact ⟨dig_ret (by rw [HV.out]) HO.out.symm, rfl⟩
        · by_cases h5 : x < 97
          · have HV := Lib.hid (show v = 0 by rw [hV, if_neg (by omega), if_neg (by omega), if_neg (by omega)]); have HO := Lib.hid (show o = false by rw [hO]; simp; omega); clear hV hO; go_enter Tryz.func239, Tryz.ntmps239; go_wp2; go_ret2; exact ⟨dig_ret HV.out.symm HO.out.symm, rfl⟩
          · by_cases h6 : x ≤ 102
            · have HV := Lib.hid (show v = (x : Int) - 97 + 10 by rw [hV, if_neg (by omega), if_pos (by omega)]); have HO := Lib.hid (show o = true by rw [hO]; simp; omega); clear hV hO; go_enter Tryz.func239, Tryz.ntmps239; go_wp2; go_ret2; exact ⟨dig_ret HV.out.symm HO.out.symm, rfl⟩
            · have HV := Lib.hid (show v = 0 by rw [hV, if_neg (by omega), if_neg (by omega), if_neg (by omega)]); have HO := Lib.hid (show o = false by rw [hO]; simp; omega); clear hV hO; go_enter Tryz.func239, Tryz.ntmps239; go_wp2; go_ret2; exact ⟨dig_ret HV.out.symm HO.out.symm, rfl⟩
def gatherM (m : Int) : List UInt8 → Int → Option Int
  | [], n => some n
  | b :: r, n => if n * m + digV b ≤ 4611686018427387904 then gatherM m r (n * m + digV b) else none
def gatherV (m : Int) (l : List UInt8) : Int := (gatherM m l 0).getD 0
def gatherOk (m : Int) (l : List UInt8) : Bool := (gatherM m l 0).isSome
theorem gather_test {n m v : Int} (hm : 0 < m) : (4611686018427387904 - v) / m < n ↔ ¬ n * m + v ≤ 4611686018427387904 := by
  rw [Int.not_le]; constructor
  · intro h; have := (Int.ediv_lt_iff_lt_mul hm).1 h; omega
  · intro h; exact (Int.ediv_lt_iff_lt_mul hm).2 (by omega)
set_option maxRecDepth 100000 in
set_option maxHeartbeats 1000000 in
theorem hexa_gather (l : List UInt8) (m : Int) (w : World) (hs : l.length ≤ maxLen) (h2 : 2 ≤ m) (h16 : m ≤ 16) :
    Calls Tryz.prog 224 #[.string (S l), .int .i64 m] w fun e w' => e = .returned (.tuple #[.int .i64 (gatherV m l), .bool (gatherOk m l)]) ∧ Keep [] w w' := by
  have hs' : l.length ≤ 9223372036854775807 := hs; have hcv := conv_run w (S l); have hby := Bytes.conv w 5 l; have hkp := conv_keep w 5 (S l); have hsz := S_size l; have hV : gatherV m l = (gatherM m l 0).getD 0 := rfl; have hO : gatherOk m l = (gatherM m l 0).isSome := rfl; generalize gatherV m l = gv at hV; generalize gatherOk m l = go at hO; have HV := Lib.hid hV; have HO := Lib.hid hO; generalize Lib.bytesWorld w 5 (S l) = wb at hcv hby hkp; generalize hX : w.heap.size = X at hcv hby; have HB := Lib.hid hby; have HK := Lib.hid hkp; have HD := Lib.hid (fun (b : UInt8) (w1 : World) => hexa_digit b w1); clear hs hX hV hO hby hkp; go_enter Tryz.func224, Tryz.ntmps224; go_wp2_with fail
  go_loopg [4, 13] l.length (fun g nv i wr => ∃ (k : Nat) (n : Int), i = .int .i64 k ∧ nv = .int .i64 n ∧ k ≤ l.length ∧ g = l.length - k ∧ 0 ≤ n ∧ n ≤ 4611686018427387904 ∧ wb = wr ∧ Hid (gatherM m l 0 = gatherM m (l.drop k) n))
  case atStart => exact ⟨0, 0, rfl, rfl, Nat.zero_le _, by omega, by omega, by omega, rfl, Lib.hid rfl⟩
  case round =>
    obtain ⟨k, n, rfl, rfl, hk, hgk, hn0, hn1, rfl, HG⟩ := hrel; by_cases hlt : k < l.length
    · obtain ⟨c, hg⟩ : ∃ c, l[k]? = some c := ⟨_, List.getElem?_eq_getElem hlt⟩
      have hc := HB.out.1 k c hg; have hr := HG.out; rw [drop_at hg, gatherM] at hr; obtain ⟨v0, v1⟩ := digV_range c; have hdc := HD.out c; have ht := gather_test (n := n) (m := m) (v := digV c) (by omega); generalize digV c = v at hr v0 v1 hdc ht; have hm0 : 0 ≤ n * m := Int.mul_nonneg hn0 (by omega); have HDC := Lib.hid hdc; clear hg HG hdc; by_cases hle : n * m + v ≤ 4611686018427387904
      · rw [if_pos hle] at hr; have HR := Lib.hid hr; have ht' : ¬ (4611686018427387904 - v) / m < n := fun h => (ht.1 h) hle
        have hm1 : n * m ≤ 4611686018427387904 := by omega
        clear hr ht; go_wp2_with fail; refine (HDC.out _).mono ?_; rintro e w1 ⟨rfl, rfl⟩; go_wp2_with fail
        go_roundg (l.length - (k + 1))
        case measure => omega
        case rel => exact ⟨k + 1, n * m + v, by go_num, rfl, by omega, rfl, by omega, by omega, rfl, HR⟩
      · rw [if_neg hle] at hr; have HR := Lib.hid hr; have ht' : (4611686018427387904 - v) / m < n := ht.2 hle; clear hr ht hle; go_wp2_with fail; refine (HDC.out _).mono ?_; rintro e w1 ⟨rfl, rfl⟩; go_wp2_with fail; go_ret2; exact ⟨dig_ret (by rw [HV.out, HR.out]; rfl) (by rw [HO.out, HR.out]; rfl), HK.out⟩
    · have hke : k = l.length := by omega
      have hr := HG.out; rw [hke, List.drop_length, gatherM] at hr; have HR := Lib.hid hr; clear hr hke; go_wp2_with fail; go_ret2; exact ⟨dig_ret (by rw [HV.out, HR.out]; rfl) (by rw [HO.out, HR.out]; rfl), HK.out⟩
def boundV (m : Int) (l : List UInt8) (most : Int) : Int := match gatherM m l 0 with | some n => if most < n then 0 else n | none => 0
def boundE (m : Int) (l : List UInt8) (most : Int) : Int := match gatherM m l 0 with | some n => if most < n then 14 else 0 | none => 14
theorem two_ret {a c b d : Int} (h : a = c) (h2 : b = d) : Ending.returned (.tuple #[.int .i64 a, .int .i64 b]) = .returned (.tuple #[.int .i64 c, .int .i64 d]) := by rw [h, h2]
theorem gatherM_nonneg (m : Int) (hm : 0 ≤ m) : ∀ (l : List UInt8) (n r : Int), 0 ≤ n → gatherM m l n = some r → 0 ≤ r
  | [], n, r, h, e => by simp [gatherM] at e; omega
  | b :: s, n, r, h, e => by
    unfold gatherM at e
    split at e
    · have := digV_range b; have := Int.mul_nonneg h hm; exact gatherM_nonneg m hm s _ r (by omega) e
    · cases e
theorem boundV_range {m : Int} (hm : 0 ≤ m) (l : List UInt8) (most : Int) : (boundE m l most = 0 → 0 ≤ boundV m l most ∧ boundV m l most ≤ most) ∧ (boundE m l most ≠ 0 → boundV m l most = 0 ∧ boundE m l most = 14) := by
  unfold boundV boundE
  cases h : gatherM m l 0 with
  | none => simp
  | some n =>
    have := gatherM_nonneg m hm l 0 n (by omega) h; dsimp only
    split
    · simp
    · simp; omega
set_option maxRecDepth 100000 in
set_option maxHeartbeats 1000000 in
theorem hexa_bounded (l : List UInt8) (m most : Int) (w : World) (hs : l.length ≤ maxLen) (h2 : 2 ≤ m) (h16 : m ≤ 16) :
    Calls Tryz.prog 199 #[.string (S l), .int .i64 m, .int .i64 most] w fun e w' => e = .returned (.tuple #[.int .i64 (boundV m l most), .int .i64 (boundE m l most)]) ∧ Keep [] w w' := by
  have hG := hexa_gather l m w hs h2 h16; have hV : boundV m l most = (match gatherM m l 0 with | some n => if most < n then 0 else n | none => 0) := rfl; have hE : boundE m l most = (match gatherM m l 0 with | some n => if most < n then 14 else 0 | none => 14) := rfl; unfold gatherV gatherOk at hG; generalize boundV m l most = v at hV; generalize boundE m l most = e0 at hE
  cases hg : gatherM m l 0 with
  | none =>
    rw [hg] at hG hV hE; change Calls _ _ _ _ (fun e w' => e = .returned (.tuple #[.int .i64 0, .bool false]) ∧ Keep [] w w') at hG; have HG := Lib.hid hG; have HV := Lib.hid hV; have HE := Lib.hid hE; clear hG hV hE hg hs; go_enter Tryz.func199, Tryz.ntmps199; go_wp2_with fail; refine HG.out.mono ?_; rintro e w1 ⟨rfl, hk1⟩; have K1 := Lib.hid hk1; clear hk1; go_wp2_with fail; go_ret2; exact ⟨two_ret HV.out.symm HE.out.symm, K1.out⟩
  | some n =>
    rw [hg] at hG hV hE; change Calls _ _ _ _ (fun e w' => e = .returned (.tuple #[.int .i64 n, .bool true]) ∧ Keep [] w w') at hG; dsimp only at hV hE; by_cases ht : most < n
    · rw [if_pos ht] at hV hE; have HG := Lib.hid hG; have HV := Lib.hid hV; have HE := Lib.hid hE; clear hG hV hE hg hs; go_enter Tryz.func199, Tryz.ntmps199; go_wp2_with fail; refine HG.out.mono ?_; rintro e w1 ⟨rfl, hk1⟩; have K1 := Lib.hid hk1; clear hk1; go_wp2_with fail; go_ret2; exact ⟨two_ret HV.out.symm HE.out.symm, K1.out⟩
    · rw [if_neg ht] at hV hE; have HG := Lib.hid hG; have HV := Lib.hid hV; have HE := Lib.hid hE; clear hG hV hE hg hs; go_enter Tryz.func199, Tryz.ntmps199; go_wp2_with fail; refine HG.out.mono ?_; rintro e w1 ⟨rfl, hk1⟩; have K1 := Lib.hid hk1; clear hk1; go_wp2_with fail; go_ret2; exact ⟨two_ret HV.out.symm HE.out.symm, K1.out⟩
def decB (b : UInt8) : Bool := decide (48 ≤ b.toNat) && decide (b.toNat ≤ 57)
def isDecM (l : List UInt8) : Bool := l.all decB && !l.isEmpty && (decide (l.length = 1) || decide (l.head? ≠ some 48))
set_option maxRecDepth 100000 in
set_option maxHeartbeats 1000000 in
theorem hexa_isDec (l : List UInt8) (w : World) (hs : l.length ≤ maxLen) :
    Calls Tryz.prog 198 #[.string (S l)] w fun e w' => e = .returned (.bool (isDecM l)) ∧ Keep [] w w' := by
  have hs' : l.length ≤ 9223372036854775807 := hs; have hcv := conv_run w (S l); have hby := Bytes.conv w 5 l; have hkp := conv_keep w 5 (S l); have hsz := S_size l; have hD : isDecM l = (l.all decB && !l.isEmpty && (decide (l.length = 1) || decide (l.head? ≠ some 48))) := rfl; generalize isDecM l = dv at hD; generalize Lib.bytesWorld w 5 (S l) = wb at hcv hby hkp; generalize hX : w.heap.size = X at hcv hby; have HB := Lib.hid hby; have HK := Lib.hid hkp; have HD := Lib.hid hD; clear hs hX hby hkp hD; go_enter Tryz.func198, Tryz.ntmps198; go_wp2_with fail
  go_loopg [8] l.length (fun g i wr => ∃ (k : Nat), i = .int .i64 k ∧ k ≤ l.length ∧ g = l.length - k ∧ wb = wr ∧ Hid ((l.take k).all decB = true))
  case atStart => exact ⟨0, rfl, Nat.zero_le _, by omega, rfl, Lib.hid rfl⟩
  case round =>
    obtain ⟨k, rfl, hk, hgk, rfl, HG⟩ := hrel; by_cases hlt : k < l.length
    · obtain ⟨c, hg⟩ : ∃ c, l[k]? = some c := ⟨_, List.getElem?_eq_getElem hlt⟩
      have hc := HB.out.1 k c hg; have hc8 := u8_nat c; by_cases h1 : 48 ≤ c.toNat ∧ c.toNat ≤ 57
      · have HN : Hid ((l.take (k + 1)).all decB = true) := by
          rw [take_snoc hg, List.all_append, HG.out]; simp [decB, h1, Hid]
        obtain ⟨h2, h3⟩ := h1; clear hg HG; go_wp2_with fail
        go_roundg (l.length - (k + 1))
        case measure => omega
        case rel => exact ⟨k + 1, by go_num, by omega, rfl, rfl, HN⟩
      · have hno : dv = false := by
          rw [HD.out]
          have : l.all decB = false := by
            rw [List.all_eq_false]; exact ⟨c, List.mem_of_getElem? hg, by simp [decB]; omega⟩
          rw [this]; simp
        have HN := Lib.hid hno; clear hg HG hno; by_cases h2 : c.toNat < 48
        · go_wp2_with fail; go_ret; exact ⟨ret_bool HN.out.symm, HK.out⟩
        · have h3 : 57 < c.toNat := by omega
          clear h1; go_wp2_with fail; go_ret; exact ⟨ret_bool HN.out.symm, HK.out⟩
    · have hke : k = l.length := by omega
      have hall := HG.out; rw [hke, List.take_length] at hall; have hD := HD.out; rw [hall] at hD; have HDD := Lib.hid hD; clear hke hall hD HG
      cases l with
      | nil =>
        have q0 : (S []).toList = [] := S_toList []; go_wp2_with fail; go_ret; exact ⟨ret_bool (by rw [HDD.out]; rfl), HK.out⟩
      | cons b r =>
        have q0 : (S (b :: r)).toList = b :: r := S_toList _; have q1 : (S (b :: r))[0]'(by rw [hsz]; simp) = b := S_get rfl _
        cases r with
        | nil =>
          have hk1 : 1 ≤ k := by simp at hlt; omega
          go_wp2_with fail; go_ret; exact ⟨ret_bool (by rw [HDD.out]; rfl), HK.out⟩
        | cons b2 r2 =>
          have hk1 : r2.length + 1 + 1 ≤ k := by simp at hlt; omega
          have q2 : ((S (b :: b2 :: r2)).size) = r2.length + 1 + 1 := by rw [hsz]; simp
          obtain ⟨z1, z2⟩ := int_ne (show (r2.length : Int) + 1 + 1 ≠ 1 by omega); have hb8 := u8_nat b; by_cases hb : b.toNat = 48
          · obtain ⟨z3, z4⟩ := int_eq (show ((b.toNat : Nat) : Int) = 48 by omega)
            have HF : Hid (dv = false) := by
              rw [HDD.out]; have : b = 48 := UInt8.toNat_inj.1 hb; simp [this, Hid]
            clear hb; go_wp2_with fail; go_ret; exact ⟨ret_bool HF.out.symm, HK.out⟩
          · obtain ⟨z3, z4⟩ := int_ne (show ((b.toNat : Nat) : Int) ≠ 48 by omega)
            have HF : Hid (dv = true) := by
              rw [HDD.out]; have : b ≠ 48 := fun h => hb (by rw [h]; rfl)
              simp [this, Hid]
            clear hb; go_wp2_with fail; go_ret; exact ⟨ret_bool HF.out.symm, HK.out⟩
def undecV (l : List UInt8) (most : Int) : Int := if isDecM l then boundV 10 l most else 0
def undecE (l : List UInt8) (most : Int) : Int := if isDecM l then boundE 10 l most else 3
theorem undec_range (l : List UInt8) (most : Int) : (undecE l most = 0 → 0 ≤ undecV l most ∧ undecV l most ≤ most) ∧ (undecE l most ≠ 0 → undecV l most = 0 ∧ (undecE l most = 14 ∨ undecE l most = 3)) := by
  unfold undecV undecE; have h := boundV_range (m := 10) (by omega) l most
  split
  · exact ⟨h.1, fun h2 => ⟨(h.2 h2).1, .inl (h.2 h2).2⟩⟩
  · simp
set_option maxRecDepth 100000 in
set_option maxHeartbeats 1000000 in
theorem hexa_Undec (l : List UInt8) (most : Int) (w : World) (hs : l.length ≤ maxLen) :
    Calls Tryz.prog 164 #[.string (S l), .int .i64 most] w fun e w' => e = .returned (.tuple #[.int .i64 (undecV l most), .int .i64 (undecE l most)]) ∧ Keep [] w w' := by
  have hD := hexa_isDec l w hs; have hB := fun w1 => hexa_bounded l 10 most w1 hs (by omega) (by omega)
  have hV : undecV l most = if isDecM l then boundV 10 l most else 0 := rfl
  have hE : undecE l most = if isDecM l then boundE 10 l most else 3 := rfl
  generalize undecV l most = v at hV; generalize undecE l most = e0 at hE
  cases hd : isDecM l with
  | true =>
    rw [hd] at hD hV hE; rw [if_pos rfl] at hV hE; have HD := Lib.hid hD; have HB := Lib.hid hB; have HV := Lib.hid hV; have HE := Lib.hid hE; clear hD hB hV hE hd hs; go_enter Tryz.func164, Tryz.ntmps164; go_wp2_with fail; refine HD.out.mono ?_; rintro e w1 ⟨rfl, hk1⟩; have K1 := Lib.hid hk1; clear hk1; go_wp2_with fail; refine (HB.out _).mono ?_; rintro e w2 ⟨rfl, hk2⟩; have K2 := Lib.hid (K1.out.trans hk2); clear hk2; go_wp2_with fail; go_ret2; exact ⟨two_ret HV.out.symm HE.out.symm, K2.out⟩
  | false =>
    rw [hd] at hD hV hE; rw [if_neg (by simp)] at hV hE; have HD := Lib.hid hD; have HV := Lib.hid hV; have HE := Lib.hid hE; clear hD hB hV hE hd hs; go_enter Tryz.func164, Tryz.ntmps164; go_wp2_with fail; refine HD.out.mono ?_; rintro e w1 ⟨rfl, hk1⟩; have K1 := Lib.hid hk1; clear hk1; go_wp2_with fail; go_ret2; exact ⟨two_ret HV.out.symm HE.out.symm, K1.out⟩
def hexOk (l : List UInt8) : Bool := !l.isEmpty && decide (l.length ≤ 16) && l.all digOk
def unhexV (l : List UInt8) (most : Int) : Int := if hexOk l then boundV 16 l most else 0
def unhexE (l : List UInt8) (most : Int) : Int := if hexOk l then boundE 16 l most else 3
theorem unhex_range (l : List UInt8) (most : Int) : (unhexE l most = 0 → 0 ≤ unhexV l most ∧ unhexV l most ≤ most) ∧ (unhexE l most ≠ 0 → unhexV l most = 0 ∧ (unhexE l most = 14 ∨ unhexE l most = 3)) := by
  unfold unhexE unhexV; have := boundV_range (m := 16) (by omega) l most
  cases hexOk l with
  | false => simp
  | true => simp only [if_true]; exact ⟨this.1, fun h => ⟨(this.2 h).1, .inl (this.2 h).2⟩⟩
set_option maxRecDepth 100000 in
set_option maxHeartbeats 1000000 in
theorem hexa_Unhexnum (l : List UInt8) (most : Int) (w : World) (hs : l.length ≤ maxLen) :
    Calls Tryz.prog 227 #[.string (S l), .int .i64 most] w fun e w' => e = .returned (.tuple #[.int .i64 (unhexV l most), .int .i64 (unhexE l most)]) ∧ Keep [] w w' := by
  have hs' : l.length ≤ 9223372036854775807 := hs; have hcv := conv_run w (S l); have hby := Bytes.conv w 5 l; have hkp := conv_keep w 5 (S l); have hsz := S_size l; have hte := S_toList l; have hV : unhexV l most = if hexOk l then boundV 16 l most else 0 := rfl
  have hE : unhexE l most = if hexOk l then boundE 16 l most else 3 := rfl
  have hO : hexOk l = (!l.isEmpty && decide (l.length ≤ 16) && l.all digOk) := rfl; have hBd := fun w1 => hexa_bounded l 16 most w1 hs (by omega) (by omega)
  generalize unhexV l most = v at hV; generalize unhexE l most = e0 at hE; generalize Lib.bytesWorld w 5 (S l) = wb at hcv hby hkp; generalize hX : w.heap.size = X at hcv hby; have HB := Lib.hid hby; have HK := Lib.hid hkp; have HD := Lib.hid (fun (b : UInt8) (w1 : World) => hexa_digit b w1); have HBd := Lib.hid hBd; clear hs hX hby hkp hBd; by_cases h0 : l = []
  · have HF := Lib.hid (show v = 0 ∧ e0 = 3 by subst h0; rw [hV, hE, hO]; exact ⟨rfl, rfl⟩); have h0' : l.isEmpty = true := by rw [h0]; rfl
    clear hV hE hO h0; go_enter Tryz.func227, Tryz.ntmps227; go_wp2_with fail; go_ret2; exact ⟨two_ret HF.out.1.symm HF.out.2.symm, Keep.refl _ _⟩
  have h0' : l.isEmpty = false := by cases l with | nil => exact absurd rfl h0 | cons => rfl
  by_cases h16 : 16 < l.length
  · have HF := Lib.hid (show v = 0 ∧ e0 = 3 by rw [hV, hE, hO, decide_eq_false (show ¬ l.length ≤ 16 by omega)]; simp); have h16' : decide (((l.length : Nat) : Int) > 16) = true := by simp; omega
    clear hV hE hO h0; go_enter Tryz.func227, Tryz.ntmps227; go_wp2_with fail; go_ret2; exact ⟨two_ret HF.out.1.symm HF.out.2.symm, Keep.refl _ _⟩
  have h16' : decide (((l.length : Nat) : Int) > 16) = false := by simp; omega
  have hO2 : hexOk l = l.all digOk := by rw [hO, h0', decide_eq_true (show l.length ≤ 16 by omega)]; simp
  rw [hO2] at hV hE; have HV := Lib.hid (And.intro hV hE); clear hV hE hO hO2 h0; go_enter Tryz.func227, Tryz.ntmps227; go_wp2_with fail
  go_loopg [20] l.length (fun g i wr => ∃ k : Nat, i = .int .i64 k ∧ k ≤ l.length ∧ g = l.length - k ∧ wb = wr ∧ Hid ((l.take k).all digOk = true))
  case atStart => exact ⟨0, rfl, Nat.zero_le _, by omega, rfl, by simp [Hid]⟩
  case round =>
    obtain ⟨k, rfl, hk, hgk, rfl, HA⟩ := hrel; by_cases hlt : k < l.length
    · obtain ⟨c, hg⟩ : ∃ c, l[k]? = some c := ⟨_, List.getElem?_eq_getElem hlt⟩
      have hc := HB.out.1 k c hg; have hdc := HD.out c; have HG := Lib.hid hg; clear hg
      cases hd : digOk c with
      | true =>
        rw [hd] at hdc; have HA2 := Lib.hid (show (l.take (k + 1)).all digOk = true by rw [take_snoc HG.out, List.all_append, HA.out]; simp [hd]); generalize digV c = x at hdc; have HDC := Lib.hid hdc; clear hd hdc; go_wp2_with fail; refine (HDC.out _).mono ?_; rintro e w1 ⟨rfl, rfl⟩; go_wp2_with fail
        go_roundg (l.length - (k + 1))
        case measure => omega
        case rel => exact ⟨k + 1, by go_num, by omega, rfl, rfl, HA2⟩
      | false =>
        rw [hd] at hdc; have hno : l.all digOk = false := by rw [List.all_eq_false]; exact ⟨c, List.mem_of_getElem? HG.out, by simp [hd]⟩
        have HF := Lib.hid (show v = 0 ∧ e0 = 3 by rw [HV.out.1, HV.out.2, hno]; exact ⟨rfl, rfl⟩); generalize digV c = x at hdc; have HDC := Lib.hid hdc; clear hd hdc hno; go_wp2_with fail; refine (HDC.out _).mono ?_; rintro e w1 ⟨rfl, rfl⟩; go_wp2_with fail; go_ret2; exact ⟨two_ret HF.out.1.symm HF.out.2.symm, HK.out⟩
    · have hall := HA.out; rw [List.take_of_length_le (by omega)] at hall; have HF := Lib.hid (show v = boundV 16 l most ∧ e0 = boundE 16 l most by rw [HV.out.1, HV.out.2, hall]; exact ⟨rfl, rfl⟩); clear hall; go_wp2_with fail; refine (HBd.out _).mono ?_; rintro e w1 ⟨rfl, k1⟩; go_wp2_with fail; go_ret2; exact ⟨two_ret HF.out.1.symm HF.out.2.symm, HK.out.trans k1⟩
set_option maxHeartbeats 1000000 in
theorem ref_Value (b : UInt8) (w : World) :
    Calls Tryz.prog 144 #[.int .u8 b.toNat] w fun e w' => e = .returned (.int .i64 (if digOk b then digV b else -1)) ∧ w = w' := by
  have hb := u8_nat b; have hV : digV b = if 48 ≤ b.toNat ∧ b.toNat ≤ 57 then (b.toNat : Int) - 48 else if 97 ≤ b.toNat ∧ b.toNat ≤ 102 then (b.toNat : Int) - 97 + 10 else if 65 ≤ b.toNat ∧ b.toNat ≤ 70 then (b.toNat : Int) - 65 + 10 else 0 := rfl
  have hO : digOk b = (decide (48 ≤ b.toNat ∧ b.toNat ≤ 57) || decide (97 ≤ b.toNat ∧ b.toNat ≤ 102) || decide (65 ≤ b.toNat ∧ b.toNat ≤ 70)) := rfl; generalize digV b = v at hV; generalize digOk b = o at hO; generalize b.toNat = x at *; have hR : ∀ z : Int, z = (if o = true then v else -1) → z = (if o = true then v else -1) := fun _ h => h
  generalize hz : (if o = true then v else -1) = z at *; have hyes : ∀ r : Int, o = true → v = r → z = r := fun r h1 h2 => by rw [← hz, if_pos h1, h2]
  have hno : o = false → z = -1 := fun h1 => by rw [← hz, h1]; rfl
  by_cases c1 : 48 ≤ x ∧ x ≤ 57
  · have HF := Lib.hid (hyes ((x : Int) - 48) (by rw [hO]; simp [c1]) (by rw [hV, if_pos c1])); obtain ⟨a1, a2⟩ := c1; clear hV hO hyes hno hR hz; go_enter Tryz.func144, Tryz.ntmps144; go_wp2_with fail; go_ret; exact ⟨ret_int HF.out.symm, rfl⟩
  by_cases c2 : 97 ≤ x ∧ x ≤ 102
  · have HF := Lib.hid (hyes ((x : Int) - 97 + 10) (by rw [hO]; simp [c2]) (by rw [hV, if_neg c1, if_pos c2])); obtain ⟨a1, a2⟩ := c2; have n1 : ¬ x ≤ 57 := by omega
    have n2 : 48 ≤ x := by omega
    clear hV hO hyes hno hR hz c1; go_enter Tryz.func144, Tryz.ntmps144; go_wp2_with fail; go_ret; exact ⟨ret_int HF.out.symm, rfl⟩
  by_cases c3 : 65 ≤ x ∧ x ≤ 70
  · have HF := Lib.hid (hyes ((x : Int) - 65 + 10) (by rw [hO]; simp [c3]) (by rw [hV, if_neg c1, if_neg c2, if_pos c3])); obtain ⟨a1, a2⟩ := c3; have n1 : ¬ x ≤ 57 := by omega
    have n2 : 48 ≤ x := by omega
    have n3 : ¬ 97 ≤ x := by omega
    clear hV hO hyes hno hR hz c1 c2; go_enter Tryz.func144, Tryz.ntmps144; go_wp2_with fail; go_ret; exact ⟨ret_int HF.out.symm, rfl⟩
  have HF := Lib.hid (hno (by rw [hO]; simp [c1, c2, c3])); clear hV hO hyes hno hR hz; by_cases a1 : x < 48
  · have n1 : ¬ 48 ≤ x := by omega
    have n2 : ¬ 97 ≤ x := by omega
    have n3 : ¬ 65 ≤ x := by omega
    clear c1 c2 c3; go_enter Tryz.func144, Tryz.ntmps144; go_wp2_with fail; go_ret; exact ⟨ret_int HF.out.symm, rfl⟩
  have m1 : 48 ≤ x := by omega
  have m2 : ¬ x ≤ 57 := by omega
  by_cases a2 : x < 65
  · have n2 : ¬ 97 ≤ x := by omega
    have n3 : ¬ 65 ≤ x := by omega
    clear c1 c2 c3; go_enter Tryz.func144, Tryz.ntmps144; go_wp2_with fail; go_ret; exact ⟨ret_int HF.out.symm, rfl⟩
  have m3 : 65 ≤ x := by omega
  have m4 : ¬ x ≤ 70 := by omega
  by_cases a3 : x < 97
  · have n2 : ¬ 97 ≤ x := by omega
    clear c1 c2 c3; go_enter Tryz.func144, Tryz.ntmps144; go_wp2_with fail; go_ret; exact ⟨ret_int HF.out.symm, rfl⟩
  have m5 : 97 ≤ x := by omega
  have m6 : ¬ x ≤ 102 := by omega
  clear c1 c2 c3; go_enter Tryz.func144, Tryz.ntmps144; go_wp2_with fail; go_ret; exact ⟨ret_int HF.out.symm, rfl⟩
end Go.Proofs.YtlhnjkekjbbhcaaGreatDoor
