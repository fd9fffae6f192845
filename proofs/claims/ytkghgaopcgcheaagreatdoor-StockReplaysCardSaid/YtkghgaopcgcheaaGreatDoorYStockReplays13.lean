/- Parts of the proof of StockReplays, in order. No conditions but those that each theorem states. -/
import Derived.Test.YtkghgaopcgcheaaGreatDoorYStockReplays0
import Derived.ArgAppend
import Derived.Test.YtkghgaopcgcheaaGreatDoorYStockReplays11
import Derived.Test.YtkghgaopcgcheaaGreatDoorYStockReplays12
set_option maxRecDepth 100000
set_option maxHeartbeats 16000000
set_option linter.unusedSimpArgs false
set_option linter.unusedVariables false
namespace Go.Proofs.YtkghgaopcgcheaaGreatDoor
open Go.RowKit
theorem less_before : ∀ x y : List UInt8, Op.bytesLess x y = bytesBefore x y
  | [], [] => rfl
  | [], _ :: _ => rfl
  | _ :: _, [] => rfl
  | a :: r, b :: s => by
    simp only [Op.bytesLess, bytesBefore]; rw [less_before r s]
theorem str_less (a b : List UInt8) : Op.bytesLess (S a).toList (S b).toList = bytesBefore a b := by rw [S_toList, S_toList, less_before]
def cmpB (a b : List UInt8) : Int := if bytesBefore a b then -1 else if bytesBefore b a then 1 else 0
theorem cmp_isNaN (s : List UInt8) (w : World) : Calls Tryz.prog 226 #[.string (S s)] w fun e w' => e = .returned (.bool false) ∧ w = w' := by
  go_enter Tryz.func226, Tryz.ntmps226; go_wp2_with fail; go_ret; exact ⟨by simp, rfl⟩
theorem cmp_Compare (a b : List UInt8) (w : World) : Calls Tryz.prog 196 #[.string (S a), .string (S b)] w fun e w' => e = .returned (.int .i64 (cmpB a b)) ∧ w = w' := by
  have H1 := Lib.hid (fun s w => cmp_isNaN s w)
  have hab : (bytesBefore a b = true) ∨ (bytesBefore a b = false ∧ bytesBefore b a = true ∧ a ≠ b) ∨ (bytesBefore a b = false ∧ bytesBefore b a = false ∧ a = b) := by
    by_cases e : a = b
    · subst e; exact .inr (.inr ⟨WideAt.bytes_irrefl _, WideAt.bytes_irrefl _, rfl⟩)
    · cases h : bytesBefore a b with
      | true => exact .inl rfl
      | false =>
        rcases WideAt.bytes_total _ _ e with k | k
        · rw [h] at k; cases k
        · exact .inr (.inl ⟨rfl, k, e⟩)
  obtain ⟨R, hR⟩ : ∃ R, cmpB a b = R := ⟨_, rfl⟩
  rw [hR]; have HR := Lib.hid hR; clear hR; have f0 := str_less a b; have f1 : ((S a).toList == (S b).toList) = decide (a = b) := str_beq; rcases hab with h | ⟨h, h2, h3⟩ | ⟨h, h2, h3⟩
  · rw [h] at f0; have HV := Lib.hid (show R = -1 by rw [← HR.out]; unfold cmpB; rw [if_pos h]); clear h f1; go_enter Tryz.func196, Tryz.ntmps196; go_wp2_with fail; refine (H1.out _ _).mono ?_; rintro e w1 ⟨rfl, rfl⟩; go_wp2_with fail; refine (H1.out _ _).mono ?_; rintro e w1 ⟨rfl, rfl⟩; go_wp2_with fail; go_ret; exact ⟨by rw [HV.out]; rfl, rfl⟩
  · rw [h] at f0; rw [decide_eq_false h3] at f1; have HV := Lib.hid (show R = 1 by rw [← HR.out]; unfold cmpB; rw [if_neg (by rw [h]; simp), if_pos h2]); clear h h2 h3; go_enter Tryz.func196, Tryz.ntmps196; go_wp2_with fail; refine (H1.out _ _).mono ?_; rintro e w1 ⟨rfl, rfl⟩; go_wp2_with fail; refine (H1.out _ _).mono ?_; rintro e w1 ⟨rfl, rfl⟩; go_wp2_with fail; go_ret; exact ⟨by rw [HV.out]; rfl, rfl⟩
  · rw [h] at f0; rw [decide_eq_true h3] at f1; have HV := Lib.hid (show R = 0 by rw [← HR.out]; unfold cmpB; rw [if_neg (by rw [h]; simp), if_neg (by rw [h2]; simp)]); clear h h2 h3; go_enter Tryz.func196, Tryz.ntmps196; go_wp2_with fail; refine (H1.out _ _).mono ?_; rintro e w1 ⟨rfl, rfl⟩; go_wp2_with fail; refine (H1.out _ _).mono ?_; rintro e w1 ⟨rfl, rfl⟩; go_wp2_with fail; go_ret; exact ⟨by rw [HV.out]; rfl, rfl⟩
theorem ints_two (w : World) (x y : Int) : Blk (w.alloc (.cells #[.int .i64 x, .int .i64 y] 3)) w.heap.size 3 [.int .i64 x, .int .i64 y] := Blk.newA w #[.int .i64 x, .int .i64 y] 3
theorem cmp_Or (n : Nat) (x y : Int) (w : World) (h : Blk w n 3 [.int .i64 x, .int .i64 y]) : Calls Tryz.prog 195 #[.slice (some ⟨n, 0, none⟩) 2 2] w fun e w' => e = .returned (.int .i64 (if x = 0 then y else x)) ∧ w = w' := by
  have c0 : w.cell? ⟨n, 0, none⟩ = some (.int .i64 x) := h.get rfl; have c1 : w.cell? ⟨n, 1, none⟩ = some (.int .i64 y) := h.get rfl; clear h; obtain ⟨R, hR⟩ : ∃ R, (if x = 0 then y else x) = R := ⟨_, rfl⟩
  rw [hR]; have HR := Lib.hid hR; clear hR; go_enter Tryz.func195, Tryz.ntmps195; go_wp2_with fail
  go_loopg [8] 2 (fun g i wr => ∃ k : Nat, i = .int .i64 (k : Nat) ∧ k ≤ 2 ∧ g = 2 - k ∧ wr = w ∧ Hid ((1 ≤ k → x = 0) ∧ (2 ≤ k → y = 0)))
  case atStart => exact ⟨0, rfl, Nat.zero_le _, rfl, rfl, Lib.hid ⟨by omega, by omega⟩⟩
  case round =>
    obtain ⟨k, rfl, hk, hg, rfl, HK⟩ := hrel; have hk3 : k = 0 ∨ k = 1 ∨ k = 2 := by omega
    rcases hk3 with rfl | rfl | rfl
    · by_cases hx : x = 0
      · have f1 : (x == 0) = true := by simp [hx]
        have f2 : decide (x = 0) = true := decide_eq_true hx; have HX := Lib.hid hx; clear hx; go_wp2_with fail
        go_roundg 1
        case measure => omega
        case rel => exact ⟨1, rfl, by omega, rfl, rfl, Lib.hid ⟨fun _ => HX.out, by omega⟩⟩
      · have f1 : (x == 0) = false := by simp [hx]
        have f2 : decide (x = 0) = false := decide_eq_false hx; have HX := Lib.hid hx; clear hx; go_wp2_with fail; go_ret; exact ⟨by rw [← HR.out, if_neg HX.out]; rfl, rfl⟩
    · have hx := HK.out.1 (by omega); by_cases hy : y = 0
      · have f1 : (y == 0) = true := by simp [hy]
        have f2 : decide (y = 0) = true := decide_eq_true hy; have HX := Lib.hid (And.intro hx hy); clear hx hy; go_wp2_with fail
        go_roundg 0
        case measure => omega
        case rel => exact ⟨2, rfl, by omega, rfl, rfl, Lib.hid ⟨fun _ => HX.out.1, fun _ => HX.out.2⟩⟩
      · have f1 : (y == 0) = false := by simp [hy]
        have f2 : decide (y = 0) = false := decide_eq_false hy; have HX := Lib.hid hx; clear hx hy; go_wp2_with fail; go_ret; exact ⟨by rw [← HR.out, if_pos HX.out]; rfl, rfl⟩
    · have HX := Lib.hid (And.intro (HK.out.1 (by omega)) (HK.out.2 (by omega))); go_wp2_with fail; go_ret; exact ⟨by rw [← HR.out, HX.out.1, HX.out.2]; rfl, rfl⟩
theorem yieldsIf_bin {P : Program} {ops : Array Oper} {S : World → Prop} {op : Oper} {a : Act} (hw : Region.wanted op (yielded ops a.tmps) = true) (b : BinOp) (T T2 : TypeId) (x y : Operand) (ho : op.op = .binOp b T x y T2) (vx vy r : Value) (hx : a.eval x = vx) (hy : a.eval y = vy)
    (hg : ∀ w, (eqGuard b T x y vx vy).run P w = .ok () w) (h : ∀ w, (binOp b T vx vy).run P w = .ok r w) : YieldsIf P ops S op r a :=
  .inl ⟨hw, fun w _ => by
    unfold execOp
    simp only [ho, hx, hy, Sem.run_bind, hg, h, Result.andThen_ok, Sem.run_pure]⟩
theorem guardSlp (x y : Operand) (a b : Array Value) (w : World) : (eqGuard .neq 27 x y (.agg a) (.agg b)).run Tryz.prog w = .ok () w := by
  go_simp
theorem neqSlp (a b : List Value) (d : Bool) (w : World) (h : (Op.equalIn 10000 27 (.agg a.toArray) (.agg b.toArray)).run Tryz.prog w = .ok d w) : (binOp .neq 27 (.agg a.toArray) (.agg b.toArray)).run Tryz.prog w = .ok (.bool (!d)) w := by
  rw [run_neq_struct, h]; rfl
theorem fds_five (k : Int) (h : isKind k = true) : fdsOf k = ⟨true, true, true, true⟩ ∨ fdsOf k = ⟨true, false, false, true⟩ ∨ fdsOf k = ⟨true, false, false, false⟩ ∨ fdsOf k = ⟨false, true, true, false⟩ ∨ fdsOf k = ⟨false, true, false, false⟩ := by
  have hk : k = 1 ∨ k = 2 ∨ k = 3 ∨ k = 4 ∨ k = 5 ∨ k = 6 := by
    simp [isKind] at h; omega
  rcases hk with rfl | rfl | rfl | rfl | rfl | rfl <;> simp [fdsOf]
theorem slip_Good (x : Slp) (w : World) (hx : slipIn x) : Calls Tryz.prog 73 #[.agg x.cells.toArray] w fun e w' => e = .returned (.bool (goodS x)) ∧ Keep [] w w' := by
  obtain ⟨f, hf⟩ : ∃ f, fdsOf x.kind = f := ⟨_, rfl⟩
  obtain ⟨q, hq⟩ : ∃ q, isKind x.kind = q := ⟨_, rfl⟩
  obtain ⟨n, hn⟩ : ∃ n, w.heap.size = n := ⟨_, rfl⟩
  have hof := fun w => slip_of x.kind w
  have hgd : goodS x = (q && decide (x = onlyS x f) && (!f.names || (decide (1 ≤ x.repo.length ∧ x.repo.length ≤ 128) && decide (1 ≤ x.tag.length ∧ x.tag.length ≤ 128))) && decide (x.typ.length ≤ 100) && decide (0 ≤ x.size ∧ x.size ≤ 1048576) && decide (0 ≤ x.tick ∧ x.tick ≤ 1099511627776)) := by
    unfold goodS; rw [hf, hq]
  rw [hf, hq] at hof; rw [hgd]; have HOF := Lib.hid hof; obtain ⟨XC, hXC⟩ : ∃ l, x.cells = l := ⟨_, rfl⟩
  obtain ⟨FC, hFC⟩ : ∃ l, f.cells = l := ⟨_, rfl⟩
  rw [hFC] at HOF; have hk1 := (Keep.refl [] w).alloc (.cells XC.toArray 27); have hb1 := Blk.new w XC 27; have hz1 := alloc_size w (.cells XC.toArray 27); rw [hn] at hb1 hz1; rw [hXC]; have c0 : (w.alloc (.cells XC.toArray 27)).cell? ⟨n, 0, none⟩ = some (.int .i64 x.kind) := hb1.get (by rw [← hXC]; exact x.at0); have HX := Lib.hid (And.intro hXC (And.intro hFC hn)); have HF := Lib.hid (And.intro hf hq); clear hgd hof hXC hFC hf; go_enter Tryz.func73, Tryz.ntmps73
  go_upto_region 1 with fail
  generalize w.alloc (.cells XC.toArray 27) = w1 at hk1 hb1 hz1 c0 ⊢; have HB1 := Lib.hid (And.intro hk1 (And.intro hb1 hz1)); clear hk1 hb1 hz1 hn; go_wp2_with fail; refine (HOF.out w1).mono ?_; rintro e w2 ⟨rfl, k2⟩; have HF1 := Lib.hid (show FC.length = 4 ∧ ∀ v ∈ FC, v.oneCell' = true by rw [← HX.out.2.1]; exact ⟨rfl, by intro v hv; simp [Fds.cells] at hv; rcases hv with rfl | rfl | rfl | rfl <;> rfl⟩)
  go_upto_region 2 with (first | ((with_reducible refine gS 3 9 ?_); refine wpList_store_new rfl 189 (.tmp 3) (.tmp 9) rfl _ FC (by rfl) (by rfl) (by rw [HF1.out.1]; kernel_rfl) (by rw [HF1.out.1]; kernel_rfl) HF1.out.2 ?_) | fail)
  obtain ⟨m, hm⟩ : ∃ m, w2.heap.size = m := ⟨_, rfl⟩
  have k3 := (HB1.out.1.trans k2).alloc (.cells FC.toArray 189); have b13 := (k2.blk HB1.out.2.1 (by simp)).alloc (.cells FC.toArray 189); have b3 := Blk.new w2 FC 189; (try simp only [Act.put]); rw [hm] at b3 ⊢; generalize w2.alloc (.cells FC.toArray 189) = w3 at k3 b13 b3 ⊢; have HB3 := Lib.hid (And.intro k3 (And.intro b13 b3)); clear k2 k3 b13 b3 hm c0
  cases q with
  | false =>
    go_quiet (fail); go_wp2_with fail; go_ret; exact ⟨by simp, HB3.out.1.drewN _⟩
  | true =>
    have HON := Lib.hid (fun w => slip_only x f w (by rw [← HF.out.1]; exact fds_five x.kind HF.out.2)); obtain ⟨OC, hOC⟩ : ∃ l, (onlyS x f).cells = l := ⟨_, rfl⟩
    rw [HX.out.1, HX.out.2.1, hOC] at HON; obtain ⟨d, hd⟩ : ∃ d, decide (x = onlyS x f) = d := ⟨_, rfl⟩
    have heq := fun w => eqSlp x (onlyS x f) hx (slip_only_in f hx) w
    rw [HX.out.1, hOC, hd] at heq; have HEQ := Lib.hid (fun w => neqSlp XC OC d w (heq w)); have HRG := Lib.hid (show ∀ w', Keep [] w3 w' → w'.rangeAt n 0 XC ∧ w'.rangeAt m 0 FC from fun w' k => ⟨(k.blk HB3.out.2.1 (by simp)).rng, (k.blk HB3.out.2.2 (by simp)).rng⟩); have HL := Lib.hid (show XC.length = 38 from by rw [← HX.out.1]; exact Slp.cells_length x); have HD := Lib.hid hd; clear heq hOC hd
    -- REGION2
    refine wp_region_held_drew (S := fun w' => Keep [] w3 w') (by kernel_rfl) ((Keep.refl _ _).drew) (fun hHeld => ?_); refine gW 0 ?_; (try simp only [sq]); refine gW 1 ?_; (try simp only [sq]); refine gW 2 ?_; (try simp only [sq]); refine gZ 3 n 0 (XC) (fun w' hSw => (HRG.out w' hSw).1) (by rw [HL.out]; kernel_rfl) ?_; (try simp only [sq]); refine gZ 4 n 0 (XC) (fun w' hSw => (HRG.out w' hSw).1) (by rw [HL.out]; kernel_rfl) ?_; (try simp only [sq]); refine gZ 5 m 0 (FC) (fun w' hSw => (HRG.out w' hSw).2) (by rw [HF1.out.1]; kernel_rfl) ?_; (try simp only [sq]); refine gR 6 rfl (fun K hK => ?_); go_simp; refine (HON.out _).mono ?_; rintro e wq ⟨rfl, kq⟩; have hKq := hHeld.trans kq; clear kq; (try go_simp); refine hK.out _ _ (hKq) (fun hHeld => ?_); clear hK K; (try simp only [sq]); refine wpAnyH_take (i := 7) (oi := ⟨some 18, .binOp _ _ _ _ _, _, _, _, some (2, false)⟩) (v := .bool (!d)) rfl (by kernel_rfl) (by kernel_rfl) (by kernel_rfl) (fun _ _ _ h => h) (yieldsIf_bin (by rfl) .neq 27 27 (.tmp 14) (.tmp 17) rfl (.agg XC.toArray) (.agg OC.toArray) (.bool (!d)) (by rfl) (by rfl) (fun w => guardSlp _ _ _ _ w) (HEQ.out)) (by assumption) ?_; (try simp only [sq]); refine gW 8 ?_; (try simp only [sq]); refine wpAnyH_done (by kernel_rfl) ?_ _
    -- END2
    have HKQ := Lib.hid hKq; have HBX := Lib.hid (show Blk wq n 27 x.cells ∧ Blk wq m 189 f.cells ∧ Keep [] w wq from ⟨by rw [HX.out.1]; exact hKq.blk HB3.out.2.1 (by simp), by rw [HX.out.2.1]; exact hKq.blk HB3.out.2.2 (by simp), HB3.out.1.trans hKq⟩); clear hKq; have s1 := S_size x.repo; have s2 := S_size x.tag; have s3 := S_size x.typ; have c1 : wq.cell? ⟨n, 1, none⟩ = some (.string (S x.repo)) := HBX.out.1.get x.at1; have c2 : wq.cell? ⟨n, 2, none⟩ = some (.string (S x.tag)) := HBX.out.1.get x.at2; have c35 : wq.cell? ⟨n, 35, none⟩ = some (.string (S x.typ)) := HBX.out.1.get x.at35; have c36 : wq.cell? ⟨n, 36, none⟩ = some (.int .i64 x.size) := HBX.out.1.get x.at36; have c37 : wq.cell? ⟨n, 37, none⟩ = some (.int .i64 x.tick) := HBX.out.1.get x.at37; have W1 := Lib.hid (fun w => slip_within (x.repo.length : Nat) 1 128 w); have W2 := Lib.hid (fun w => slip_within (x.tag.length : Nat) 1 128 w); have W3 := Lib.hid (fun w => slip_within x.size 0 1048576 w); have W4 := Lib.hid (fun w => slip_within x.tick 0 1099511627776 w)
    cases d with
    | false =>
      go_wp2_with fail; go_ret; exact ⟨by rw [HD.out]; simp, HBX.out.2.2⟩
    | true =>
      obtain ⟨nm, hnm⟩ : ∃ q, f.names = q := ⟨_, rfl⟩
      have cf : wq.cell? ⟨m, 0, none⟩ = some (.bool nm) := by rw [← hnm]; exact HBX.out.2.1.get rfl
      have HNM := Lib.hid hnm; clear hnm
      cases nm with
      | false =>
        by_cases ht : x.typ.length ≤ 100
        · have ft : decide ((x.typ.length : Int) ≤ 100) = true := decide_eq_true (by omega); have gt : decide (x.typ.length ≤ 100) = true := decide_eq_true ht; have HGT := Lib.hid gt; clear gt; go_wp2_with fail; refine (W3.out wq).mono ?_; rintro e we ⟨rfl, rfl⟩
          cases hs : decide (0 ≤ x.size ∧ x.size ≤ 1048576) with
          | false =>
            have HS := Lib.hid hs; clear hs; go_wp2_with fail; go_ret; exact ⟨by rw [HS.out]; simp, HBX.out.2.2⟩
          | true =>
            have HS := Lib.hid hs; clear hs; go_wp2_with fail; refine (W4.out wq).mono ?_; rintro e we ⟨rfl, rfl⟩; go_wp2_with fail; go_ret; exact ⟨by rw [HD.out, HGT.out, HS.out, HNM.out]; simp, HBX.out.2.2⟩
        · have ft : decide ((x.typ.length : Int) ≤ 100) = false := decide_eq_false (by omega); have gt : decide (x.typ.length ≤ 100) = false := decide_eq_false ht; have HGT := Lib.hid gt; clear gt; go_wp2_with fail; go_ret; exact ⟨by rw [HGT.out]; simp, HBX.out.2.2⟩
      | true =>
        go_wp2_with fail; refine (W1.out wq).mono ?_; rintro e we ⟨rfl, rfl⟩
        cases h1 : decide (1 ≤ (x.repo.length : Int) ∧ (x.repo.length : Int) ≤ 128) with
        | false =>
          have H1 := Lib.hid (show decide (1 ≤ x.repo.length ∧ x.repo.length ≤ 128) = false by rw [← h1]; exact decide_eq_decide.2 (by omega)); clear h1; go_wp2_with fail; go_ret; exact ⟨by rw [H1.out, HNM.out]; simp, HBX.out.2.2⟩
        | true =>
          have H1 := Lib.hid (show decide (1 ≤ x.repo.length ∧ x.repo.length ≤ 128) = true by rw [← h1]; exact decide_eq_decide.2 (by omega)); clear h1; go_wp2_with fail; refine (W2.out wq).mono ?_; rintro e we ⟨rfl, rfl⟩
          cases h2 : decide (1 ≤ (x.tag.length : Int) ∧ (x.tag.length : Int) ≤ 128) with
          | false =>
            have H2 := Lib.hid (show decide (1 ≤ x.tag.length ∧ x.tag.length ≤ 128) = false by rw [← h2]; exact decide_eq_decide.2 (by omega)); clear h2; go_wp2_with fail; go_ret; exact ⟨by rw [H2.out, HNM.out]; simp, HBX.out.2.2⟩
          | true =>
            have H2 := Lib.hid (show decide (1 ≤ x.tag.length ∧ x.tag.length ≤ 128) = true by rw [← h2]; exact decide_eq_decide.2 (by omega)); clear h2; by_cases ht : x.typ.length ≤ 100
            · have ft : decide ((x.typ.length : Int) ≤ 100) = true := decide_eq_true (by omega); have gt : decide (x.typ.length ≤ 100) = true := decide_eq_true ht; have HGT := Lib.hid gt; clear gt; go_wp2_with fail; refine (W3.out wq).mono ?_; rintro e we ⟨rfl, rfl⟩
              cases hs : decide (0 ≤ x.size ∧ x.size ≤ 1048576) with
              | false =>
                have HS := Lib.hid hs; clear hs; go_wp2_with fail; go_ret; exact ⟨by rw [HS.out]; simp, HBX.out.2.2⟩
              | true =>
                have HS := Lib.hid hs; clear hs; go_wp2_with fail; refine (W4.out wq).mono ?_; rintro e we ⟨rfl, rfl⟩; go_wp2_with fail; go_ret; exact ⟨by rw [HD.out, HGT.out, HS.out, HNM.out, H1.out, H2.out]; simp, HBX.out.2.2⟩
            · have ft : decide ((x.typ.length : Int) ≤ 100) = false := decide_eq_false (by omega); have gt : decide (x.typ.length ≤ 100) = false := decide_eq_false ht; have HGT := Lib.hid gt; clear gt; go_wp2_with fail; go_ret; exact ⟨by rw [HGT.out]; simp, HBX.out.2.2⟩
def cmpT (a b : Tik) : Int := if cmpB a.repo b.repo = 0 then cmpB a.tag b.tag else cmpB a.repo b.repo
theorem cmpB_lt (a b : List UInt8) : cmpB a b < 0 ↔ bytesBefore a b = true := by
  unfold cmpB
  split
  · rename_i h; simp [h]
  · rename_i h
    split <;> simp [h]
theorem cmpB_zero (a b : List UInt8) : cmpB a b = 0 ↔ a = b := by
  unfold cmpB; constructor
  · intro h; by_cases e : a = b
    · exact e
    · rcases WideAt.bytes_total _ _ e with k | k
      · rw [if_pos k] at h; omega
      · split at h
        · omega
        · simp [k] at h
  · rintro rfl; rw [WideAt.bytes_irrefl]; rfl
theorem cmpT_lt (a b : Tik) : (cmpT a b < 0) ↔ aheadT a b = true := by
  unfold cmpT aheadT; by_cases h : cmpB a.repo b.repo = 0
  · rw [if_pos h, cmpB_lt]; have e := (cmpB_zero _ _).1 h; rw [e, WideAt.bytes_irrefl]; simp
  · rw [if_neg h, cmpB_lt]; have e : a.repo ≠ b.repo := fun k => h ((cmpB_zero _ _).2 k)
    simp [e]
theorem cmpT_zero (a b : Tik) : (cmpT a b = 0) ↔ sameT a b = true := by
  unfold cmpT; rw [sameT_iff]; by_cases h : cmpB a.repo b.repo = 0
  · rw [if_pos h, cmpB_zero]; exact ⟨fun k => ⟨(cmpB_zero _ _).1 h, k⟩, fun k => k.2⟩
  · rw [if_neg h]; exact ⟨fun k => absurd k h, fun k => absurd ((cmpB_zero _ _).2 k.1) h⟩
theorem Tik.at0 (x : Tik) : x.cells[0]? = some (.string (S x.repo)) := rfl
theorem Tik.at1 (x : Tik) : x.cells[1]? = some (.string (S x.tag)) := rfl
theorem Tik.at2 (x : Tik) : x.cells[2]? = some (.bool x.found) := rfl
theorem Tik.at35 (x : Tik) : x.cells[35]? = some (.string (S x.typ)) := by simp [Tik.cells, digC_length, List.getElem?_append]
theorem Tik.at36 (x : Tik) : x.cells[36]? = some (.int .i64 x.size) := by simp [Tik.cells, digC_length, List.getElem?_append]
theorem Tik.at37 (x : Tik) : x.cells[37]? = some (.int .i64 x.tick) := by simp [Tik.cells, digC_length, List.getElem?_append]
theorem ticket_byTag (a b : Tik) (AC BC : List Value) (ha : a.cells = AC) (hb : b.cells = BC) (w : World) :
    Calls Tryz.prog 166 #[.agg AC.toArray, .agg BC.toArray] w fun e w' => e = .returned (.int .i64 (cmpT a b)) ∧ Keep [] w w' := by
  obtain ⟨n, hn⟩ : ∃ n, w.heap.size = n := ⟨_, rfl⟩
  have k1 := (Keep.refl [] w).alloc (.cells AC.toArray 51); have b1 := Blk.new w AC 51; have z1 := alloc_size w (.cells AC.toArray 51); rw [hn] at b1 z1; have k2 := k1.alloc (.cells BC.toArray 51); have b12 := b1.alloc (.cells BC.toArray 51); have b2 := Blk.new (w.alloc (.cells AC.toArray 51)) BC 51; rw [z1] at b2; have HCM := Lib.hid (fun x y w => cmp_Compare x y w); obtain ⟨R, hR⟩ : ∃ R, cmpT a b = R := ⟨_, rfl⟩
  rw [hR]; have HRR := Lib.hid hR; clear hR; go_enter Tryz.func166, Tryz.ntmps166
  go_upto_region 1 with fail
  (try simp only [hn, z1]); generalize (w.alloc (.cells AC.toArray 51)).alloc (.cells BC.toArray 51) = w2 at k2 b12 b2 ⊢
  have HC := Lib.hid (show ∀ w', Keep [] w2 w' → w'.cell? ⟨n, 0, none⟩ = some (.string (S a.repo)) ∧ w'.cell? ⟨n, 1, none⟩ = some (.string (S a.tag)) ∧ w'.cell? ⟨n + 1, 0, none⟩ = some (.string (S b.repo)) ∧ w'.cell? ⟨n + 1, 1, none⟩ = some (.string (S b.tag)) from fun w' k =>
    ⟨(k.blk b12 (by simp)).get (by rw [← ha]; exact a.at0), (k.blk b12 (by simp)).get (by rw [← ha]; exact a.at1), (k.blk b2 (by simp)).get (by rw [← hb]; exact b.at0), (k.blk b2 (by simp)).get (by rw [← hb]; exact b.at1)⟩)
  have hk := Lib.hid k2; clear k1 b1 z1 k2 b12 b2 hn ha hb; refine wp_region_held_drew (S := fun w' => Keep [] w2 w') (by kernel_rfl) ((Keep.refl _ _).drew) (fun hHeld => ?_); refine gW 0 ?_; (try simp only [sq]); refine gV 1 (v := ?_) ?_ ?_; rotate_left
  · (intro w' hSw; obtain ⟨d1, d2, d3, d4⟩ := HC.out w' hSw; go_simp) <;> (with_reducible rfl)
  (try simp only [sq]); refine gW 2 ?_; (try simp only [sq]); refine gV 3 (v := ?_) ?_ ?_; rotate_left
  · (intro w' hSw; obtain ⟨d1, d2, d3, d4⟩ := HC.out w' hSw; go_simp) <;> (with_reducible rfl)
  (try simp only [sq]); refine gW 5 ?_; (try simp only [sq]); refine gV 6 (v := ?_) ?_ ?_; rotate_left
  · (intro w' hSw; obtain ⟨d1, d2, d3, d4⟩ := HC.out w' hSw; go_simp) <;> (with_reducible rfl)
  (try simp only [sq]); refine gW 7 ?_; (try simp only [sq]); refine gV 8 (v := ?_) ?_ ?_; rotate_left
  · (intro w' hSw; obtain ⟨d1, d2, d3, d4⟩ := HC.out w' hSw; go_simp) <;> (with_reducible rfl)
  (try simp only [sq]); refine gR 4 rfl (fun K hK => ?_); go_simp; refine (HCM.out _ _ _).mono ?_; rintro e wq ⟨rfl, rfl⟩; (try go_simp); refine hK.out _ _ (hHeld) (fun hHeld => ?_); clear hK K; (try simp only [sq]); refine gR 9 rfl (fun K hK => ?_); go_simp; refine (HCM.out _ _ _).mono ?_; rintro e wq2 ⟨rfl, rfl⟩; (try go_simp); refine hK.out _ _ (hHeld) (fun hHeld => ?_); clear hK K; (try simp only [sq]); refine gR 10 rfl (fun K hK => ?_); go_simp; have hKa := hHeld.alloc (.cells #[.int .i64 (cmpB a.repo b.repo), .int .i64 (cmpB a.tag b.tag)] 3); refine hK.out _ _ (hKa) (fun hHeld => ?_); clear hK K; (try simp only [sq]); refine gR 11 rfl (fun K hK => ?_); go_simp; have hor := fun ww hb => cmp_Or w2.heap.size (cmpB a.repo b.repo) (cmpB a.tag b.tag) ww hb
  rw [show (if cmpB a.repo b.repo = 0 then cmpB a.tag b.tag else cmpB a.repo b.repo) = R from HRR.out] at hor; refine (hor _ (by exact ints_two w2 _ _)).mono ?_; rintro e wq3 ⟨rfl, rfl⟩; (try go_simp); refine hK.out _ _ (hHeld) (fun hHeld => ?_); clear hK K; (try simp only [sq]); refine gW 12 ?_; (try simp only [sq]); refine wpAnyH_done (by kernel_rfl) ?_ _; have HKF := Lib.hid (hk.out.trans hHeld); go_wp2_with fail; go_ret; exact ⟨rfl, HKF.out⟩
theorem pos_iff {L : List Tik} (h : AscT L) {x y : Tik} {k : Nat} (hk : L[k]? = some y) : aheadT y x = true ↔ k < posT x L := by
  induction L generalizing k with
  | nil => cases hk
  | cons z r ih =>
    obtain ⟨h1, h2⟩ := List.pairwise_cons.1 h
    cases k with
    | zero =>
      obtain rfl : z = y := by simpa using hk
      cases hz : aheadT z x with
      | true => rw [posT_cons, if_pos hz]; simp
      | false => rw [posT_zero h hz]; simp
    | succ k =>
      have hk' : r[k]? = some y := by simpa using hk
      have hm := List.mem_of_getElem? hk'
      cases hz : aheadT z x with
      | true => rw [posT_cons, if_pos hz, ih h2 hk']; omega
      | false =>
        rw [posT_zero h hz]; constructor
        · intro hy; rw [ahead_trans (h1 y hm) hy] at hz; cases hz
        · intro hlt; omega
def isT (x : Tik) (L : List Tik) : Bool := match L[posT x L]? with
  | some y => sameT y x
  | none => false
theorem tik_Search (L : List Tik) (v : Value) (x : Tik) (XC : List Value) (hx : x.cells = XC) (w : World) (hs : Sl Tik.cells 38 w v L) (hA : AscT L) (hl : L.length ≤ 100000) :
    Calls Tryz.prog 165 #[v, .agg XC.toArray, .func (.func 166) #[] #[]] w fun e w' => e = .returned (.tuple #[.int .i64 (posT x L : Nat), .bool (isT x L)]) ∧ Keep [] w w' := by
  obtain ⟨a, cap, rfl, hml⟩ := hs.shape; have hml' : L.length ≤ 9223372036854775807 := hml; obtain ⟨p, hp⟩ : ∃ p, posT x L = p := ⟨_, rfl⟩
  have hpl : p ≤ L.length := by rw [← hp]; exact posT_le x L
  obtain ⟨R, hR⟩ : ∃ R, isT x L = R := ⟨_, rfl⟩
  rw [hp, hR]
  have HP := Lib.hid (show (∀ k y, L[k]? = some y → (aheadT y x = true ↔ k < p)) ∧ (∀ y, L[p]? = some y → R = sameT y x) ∧ (L[p]? = none → R = false) from
    ⟨fun k y hk => by rw [← hp]; exact pos_iff hA hk, fun y hy => by rw [← hR]; unfold isT; rw [hp, hy], fun hy => by rw [← hR]; unfold isT; rw [hp, hy]⟩)
  clear hp hR hA; obtain ⟨n, hn⟩ : ∃ n, w.heap.size = n := ⟨_, rfl⟩
  have k1 := (Keep.refl [] w).alloc (.cells XC.toArray 51); have b1 := Blk.new w XC 51; rw [hn] at b1; have HCM := Lib.hid (fun (y : Tik) (YC : List Value) (hy : y.cells = YC) (w : World) => ticket_byTag y x YC XC hy hx w); have HXL := Lib.hid (show XC.length = 38 by rw [← hx]; exact Tik.cells_length x); have HS := Lib.hid hs; clear hs hx; go_enter Tryz.func165, Tryz.ntmps165
  go_upto_region 1 with fail
  (try simp only [hn]); generalize w.alloc (.cells XC.toArray 51) = w1 at k1 b1 ⊢; have K1 := Lib.hid k1; have B1 := Lib.hid b1; clear k1 b1 hn; go_wp2_with fail
  go_loopg [9, 10] L.length (fun g s9 s10 wr => ∃ (i j : Nat), s9 = .int .i64 (i : Nat) ∧ s10 = .int .i64 (j : Nat) ∧ g = j - i ∧ i ≤ p ∧ p ≤ j ∧ j ≤ L.length ∧ Hid (Keep [] w1 wr))
  case atStart => exact ⟨0, L.length, rfl, rfl, by omega, Nat.zero_le _, hpl, Nat.le_refl _, Lib.hid (Keep.refl _ _)⟩
  case round =>
    obtain ⟨i, j, rfl, rfl, hgm, hip, hpj, hjl, HK⟩ := hrel; by_cases hij : i < j
    · have f1 : decide ((i : Int) < (j : Int)) = true := decide_eq_true (by omega); have f1n : decide (i < j) = true := decide_eq_true hij; have wk := IntWalk.i64_in ((i : Int) + (j : Int)) (by omega)
      go_upto_region 5 with fail
      obtain ⟨h, hh⟩ : ∃ h : Nat, ((i : Int) + (j : Int)) / 2 = (h : Int) := ⟨(i + j) / 2, by omega⟩
      have hih : i ≤ h := by omega
      have hhj : h < j := by omega
      have hlt : h < L.length := by omega
      rw [hh]; have f2 : decide ((h : Int) < (L.length : Nat)) = true := decide_eq_true (by omega); obtain ⟨y, hy⟩ : ∃ y, L[h]? = some y := ⟨_, List.getElem?_eq_getElem hlt⟩
      obtain ⟨b, off, cap', hv, h1, h2, h3⟩ := HS.out.cell hy; cases hv; obtain ⟨YC, hYC⟩ : ∃ z, y.cells = z := ⟨_, rfl⟩
      have HYL := Lib.hid (show YC.length = 38 by rw [← hYC]; exact Tik.cells_length y)
      have HRG := Lib.hid (show ∀ w', Keep [] w1 w' → w'.rangeAt b (off + h * 38) YC ∧ w'.rangeAt n 0 XC from fun w' k => ⟨fun q u hq => by
          have hq38 : q < 38 := by have := (List.getElem?_eq_some_iff.1 hq).1; have := HYL.out; omega
          refine (K1.out.trans k).load ?_; rw [h3 q hq38, hYC]; exact hq, (k.blk B1.out (by simp)).rng⟩)
      have HCY := Lib.hid (fun w => HCM.out y YC hYC w); obtain ⟨c, hc⟩ : ∃ c, cmpT y x = c := ⟨_, rfl⟩
      rw [hc] at HCY; have HCP := Lib.hid (show c < 0 ↔ h < p by rw [← hc, cmpT_lt]; exact HP.out.1 h y hy); clear hy h1 h2 h3 hYC hc hh wk; refine wp_region_held_drew (S := fun w' => Keep [] wr w') (by kernel_rfl) ((Keep.refl _ _).drew) (fun hHeld => ?_); refine gW 0 ?_; (try simp only [sq]); refine gW 1 ?_; (try simp only [sq]); refine gW 2 ?_; (try simp only [sq]); refine gW 3 ?_; (try simp only [sq]); refine gZ 4 b (off + h * 38) (YC) (fun w' hSw => (HRG.out w' (HK.out.trans hSw)).1) (by rw [HYL.out]; kernel_rfl) ?_; (try simp only [sq]); refine gZ 5 n 0 (XC) (fun w' hSw => (HRG.out w' (HK.out.trans hSw)).2) (by rw [HXL.out]; kernel_rfl) ?_; (try simp only [sq]); refine gR 6 rfl (fun K hK => ?_); go_simp; refine (HCY.out _).mono ?_; rintro e wq ⟨rfl, kq⟩; have hKq := hHeld.trans kq; clear kq; (try go_simp); refine hK.out _ _ (hKq) (fun hHeld => ?_); clear hK K; (try simp only [sq]); refine gW 7 ?_; (try simp only [sq]); refine wpAnyH_done (by kernel_rfl) ?_ _; have HKQ := Lib.hid (HK.out.trans hKq); by_cases hc0 : c < 0
      · have f3 : decide (c < 0) = true := decide_eq_true hc0; have hhp := HCP.out.1 hc0; go_wp2_with fail
        go_roundg (j - (h + 1))
        case measure => omega
        case rel => exact ⟨h + 1, j, rfl, rfl, rfl, by omega, hpj, hjl, HKQ⟩
      · have f3 : decide (c < 0) = false := decide_eq_false hc0; have hhp : ¬ h < p := fun k => hc0 (HCP.out.2 k)
        go_wp2_with fail
        go_roundg (h - i)
        case measure => omega
        case rel => exact ⟨i, h, rfl, rfl, rfl, hip, by omega, by omega, HKQ⟩
    · obtain rfl : i = p := by omega
      obtain rfl : j = i := by omega
      clear hij
      go_upto_region 8 with fail
      by_cases hlt : j < L.length
      · have f2 : decide ((j : Int) < (L.length : Nat)) = true := decide_eq_true (by omega); have f2n : decide (j < L.length) = true := decide_eq_true hlt; obtain ⟨y, hy⟩ : ∃ y, L[j]? = some y := ⟨_, List.getElem?_eq_getElem hlt⟩
        obtain ⟨b, off, cap', hv, h1, h2, h3⟩ := HS.out.cell hy; cases hv; obtain ⟨YC, hYC⟩ : ∃ z, y.cells = z := ⟨_, rfl⟩
        have HYL := Lib.hid (show YC.length = 38 by rw [← hYC]; exact Tik.cells_length y)
        have HRG := Lib.hid (show ∀ w', Keep [] w1 w' → w'.rangeAt b (off + j * 38) YC ∧ w'.rangeAt n 0 XC from fun w' k => ⟨fun q u hq => by
            have hq38 : q < 38 := by have := (List.getElem?_eq_some_iff.1 hq).1; have := HYL.out; omega
            refine (K1.out.trans k).load ?_; rw [h3 q hq38, hYC]; exact hq, (k.blk B1.out (by simp)).rng⟩)
        have HCY := Lib.hid (fun w => HCM.out y YC hYC w); obtain ⟨c, hc⟩ : ∃ c, cmpT y x = c := ⟨_, rfl⟩
        rw [hc] at HCY
        have HCP := Lib.hid (show (c == 0) = R by
          rw [HP.out.2.1 y hy, Bool.eq_iff_iff, beq_iff_eq, ← hc]; exact cmpT_zero y x)
        clear hy h1 h2 h3 hYC hc; refine wp_region_held_drew (S := fun w' => Keep [] wr w') (by kernel_rfl) ((Keep.refl _ _).drew) (fun hHeld => ?_); refine gW 0 ?_; (try simp only [sq]); refine gW 1 ?_; (try simp only [sq]); refine gW 2 ?_; (try simp only [sq]); refine gW 3 ?_; (try simp only [sq]); refine gW 4 ?_; (try simp only [sq]); refine gW 5 ?_; (try simp only [sq]); refine gW 6 ?_; (try simp only [sq]); refine gW 7 ?_; (try simp only [sq]); refine gW 8 ?_; (try simp only [sq]); refine gZ 9 b (off + j * 38) (YC) (fun w' hSw => (HRG.out w' (HK.out.trans hSw)).1) (by rw [HYL.out]; kernel_rfl) ?_; (try simp only [sq]); refine gZ 10 n 0 (XC) (fun w' hSw => (HRG.out w' (HK.out.trans hSw)).2) (by rw [HXL.out]; kernel_rfl) ?_; (try simp only [sq]); refine gR 11 rfl (fun K hK => ?_); go_simp; refine (HCY.out _).mono ?_; rintro e wq ⟨rfl, kq⟩; have hKq := hHeld.trans kq; clear kq; (try go_simp); refine hK.out _ _ (hKq) (fun hHeld => ?_); clear hK K; (try simp only [sq]); refine gW 12 ?_; (try simp only [sq]); refine gW 13 ?_; (try simp only [sq]); refine gW 14 ?_; (try simp only [sq]); refine gW 15 ?_; (try simp only [sq]); refine wpAnyH_done (by kernel_rfl) ?_ _; have HKQ := Lib.hid (K1.out.trans (HK.out.trans hKq)); go_wp2_with fail; go_ret2; exact ⟨by rw [← HCP.out]; rfl, HKQ.out⟩
      · have f2 : decide ((j : Int) < (L.length : Nat)) = false := decide_eq_false (by omega); have f2n : decide (j < L.length) = false := decide_eq_false hlt; have HRF := Lib.hid (HP.out.2.2 (List.getElem?_eq_none (by omega))); refine wp_region_held_drew (S := fun w' => Keep [] wr w') (by kernel_rfl) ((Keep.refl _ _).drew) (fun hHeld => ?_); refine gW 0 ?_; (try simp only [sq]); refine gW 1 ?_; (try simp only [sq]); refine gW 2 ?_; (try simp only [sq]); refine gW 3 ?_; (try simp only [sq]); refine gW 4 ?_; (try simp only [sq]); refine gN 5 ?_; (try simp only [sq]); refine gN 6 ?_; (try simp only [sq]); refine gN 7 ?_; (try simp only [sq]); refine gN 8 ?_; (try simp only [sq]); refine gN 9 ?_; (try simp only [sq]); refine gN 10 ?_; (try simp only [sq]); refine gN 11 ?_; (try simp only [sq]); refine gN 12 ?_; (try simp only [sq]); refine gW 13 ?_; (try simp only [sq]); refine gW 14 ?_; (try simp only [sq]); refine gW 15 ?_; (try simp only [sq]); refine wpAnyH_done (by kernel_rfl) ?_ _; have HKQ := Lib.hid (K1.out.trans (HK.out.trans hHeld)); go_wp2_with fail; go_ret2; exact ⟨by rw [HRF.out]; rfl, HKQ.out⟩
structure TbW (w : World) (t : Nat) (v : Value) (most : Nat) (L : List Tik) : Prop where
  blk : Blk w t 133 [v, .int .i64 (most : Nat)]
  own : Own Tik.cells 38 0 51 w v L
  ne : ∀ g, v.ownBlock = some g → g ≠ t
  asc : AscT L
  len : L.length ≤ most
  m0 : 0 < most
  m64 : most ≤ 64
theorem TbW.keep {T : List Nat} {w w' : World} {t : Nat} {v : Value} {most : Nat} {L : List Tik} (h : TbW w t v most L) (k : Keep T w w') (ht : t ∉ T) (hv : ∀ g, v.ownBlock = some g → g ∉ T) : TbW w' t v most L :=
  ⟨k.blk h.blk ht, h.own.keep k hv, h.ne, h.asc, h.len, h.m0, h.m64⟩
theorem TbW.keep0 {w w' : World} {t : Nat} {v : Value} {most : Nat} {L : List Tik} (h : TbW w t v most L) (k : Keep [] w w') : TbW w' t v most L := h.keep k (by simp) (by simp)
def Tb (S : List Nat) (w : World) (t : Nat) (most : Nat) (L : List Tik) : Prop := ∃ v, TbW w t v most L ∧ t ∈ S ∧ ∀ g, v.ownBlock = some g → g ∈ S
theorem Tb.keep {S T : List Nat} {w w' : World} {t most : Nat} {L : List Tik} (h : Tb S w t most L) (k : Keep T w w') (hT : ∀ x ∈ S, x ∉ T) : Tb S w' t most L := by
  obtain ⟨v, h1, h2, h3⟩ := h; exact ⟨v, h1.keep k (hT _ h2) (fun g hg => hT _ (h3 g hg)), h2, h3⟩
theorem ticket_find (t : Nat) (v : Value) (most : Nat) (L : List Tik) (x : Tik) (XC : List Value) (hx : x.cells = XC) (w : World) (h : TbW w t v most L) :
    Calls Tryz.prog 121 #[.pointer (some ⟨t, 0, none⟩), .agg XC.toArray] w fun e w' => e = .returned (.tuple #[.int .i64 (posT x L : Nat), .bool (isT x L)]) ∧ Keep [] w w' := by
  obtain ⟨n, hn⟩ : ∃ n, w.heap.size = n := ⟨_, rfl⟩
  have k1 := (Keep.refl [] w).alloc (.cells XC.toArray 51); have b1 := Blk.new w XC 51; rw [hn] at b1; have HXL := Lib.hid (show XC.length = 38 by rw [← hx]; exact Tik.cells_length x)
  have HF := Lib.hid (show ∀ w', Keep [] w w' → w'.cell? ⟨t, 0, none⟩ = some v ∧ Calls Tryz.prog 165 #[v, .agg XC.toArray, .func (.func 166) #[] #[]] w' fun e w'' => e = .returned (.tuple #[.int .i64 (posT x L : Nat), .bool (isT x L)]) ∧ Keep [] w' w'' from
    fun w' k => ⟨(h.keep0 k).blk.get rfl, tik_Search L v x XC hx w' ((h.own.keep0 k).sl Tik.cells_length) h.asc (by have := h.len; have := h.m64; omega)⟩)
  clear hx h; go_enter Tryz.func121, Tryz.ntmps121
  go_upto_region 1 with fail
  (try simp only [hn]); generalize w.alloc (.cells XC.toArray 51) = w1 at k1 b1 ⊢; have K1 := Lib.hid k1; have B1 := Lib.hid b1; clear k1 b1 hn; refine wp_region_held_drew (S := fun w' => Keep [] w1 w') (by kernel_rfl) ((Keep.refl _ _).drew) (fun hHeld => ?_); refine gW 0 ?_; (try simp only [sq]); refine gW 1 ?_; (try simp only [sq]); refine gW 2 ?_; (try simp only [sq]); refine gV 3 (v := ?_) ?_ ?_; rotate_left
  · (intro w' hSw; have cF := (HF.out w' (K1.out.trans hSw)).1; go_simp) <;> (with_reducible rfl)
  (try simp only [sq]); refine gZ 4 n 0 (XC) (fun w' hSw => (hSw.blk B1.out (by simp)).rng) (by rw [HXL.out]; kernel_rfl) ?_; (try simp only [sq]); refine gR 5 rfl (fun K hK => ?_); go_simp; refine (HF.out _ (K1.out.trans hHeld)).2.mono ?_; rintro e wq ⟨rfl, kq⟩; have hKq := hHeld.trans kq; clear kq; (try go_simp); refine hK.out _ _ (hKq) (fun hHeld => ?_); clear hK K; (try simp only [sq]); refine gW 6 ?_; (try simp only [sq]); refine gW 7 ?_; (try simp only [sq]); refine gW 8 ?_; (try simp only [sq]); refine gW 9 ?_; (try simp only [sq]); refine wpAnyH_done (by kernel_rfl) ?_ _; have HKQ := Lib.hid (K1.out.trans hKq); go_wp2_with fail; go_ret2; exact ⟨rfl, HKQ.out⟩
theorem putAt_all {α : Type} : ∀ (vs xs : List α), xs.length = vs.length → putAt xs 0 vs = vs
  | [], xs, h => by rw [List.eq_nil_of_length_eq_zero h]; rfl
  | v :: r, [], h => by simp at h
  | v :: r, x :: t, h => by
    show putAt (v :: t) 1 r = v :: r; have := putAt_right [v] r t 0; rw [putAt_all r t (by simpa using h)] at this; exact this
theorem putAt_eq {α : Type} (C vs : List α) (o : Nat) (h : o + vs.length ≤ C.length) : putAt C o vs = C.take o ++ (vs ++ C.drop (o + vs.length)) := by
  have e : C = C.take o ++ ((C.drop o).take vs.length ++ C.drop (o + vs.length)) := by
    rw [← List.drop_drop, List.take_append_drop, List.take_append_drop]
  have hl : (C.take o).length = o := by rw [List.length_take]; omega
  have hm : ((C.drop o).take vs.length).length = vs.length := by rw [List.length_take, List.length_drop]; omega
  conv => lhs; rw [e]
  have h1 := putAt_right (C.take o) vs ((C.drop o).take vs.length ++ C.drop (o + vs.length)) 0; rw [hl, Nat.add_zero] at h1; rw [h1, putAt_left _ vs _ 0 (by omega), putAt_all _ _ hm]
section
variable {α : Type} {enc : α → List Value} {n base : Nat} {E : TypeId} {w : World} {v : Value} {L : List α}
theorem rows_app' (A B : List α) : rows enc (A ++ B) = rows enc A ++ rows enc B := by simp [rows]
theorem own_rows (hn : ∀ x, (enc x).length = n) (h : Own enc n base E w v L) : (v = .slice none 0 0 ∧ L = []) ∨ ∃ g cap R, v = .slice (some ⟨g, 0, none⟩) L.length cap ∧ base ≤ g ∧ Blk w g E (rows enc L ++ R) ∧ L.length ≤ cap ∧ cap ≤ maxLen ∧ R.length = (cap - L.length) * n := by
  rcases h.2 with ⟨hv, h0⟩ | ⟨g, cap, cur, hv, hb, hg, hc, hm, hs, ht⟩
  · exact .inl ⟨hv, List.eq_nil_of_length_eq_zero h0⟩
  · refine .inr ⟨g, cap, cur.toList.drop (L.length * n), hv, hb, ?_, hc, hm, ?_⟩
    · unfold Blk; rw [← ht, List.take_append_drop, Array.toArray_toList]; exact hg
    · rw [List.length_drop, Array.length_toList, hs, Nat.sub_mul]
theorem own_of_rows (hn : ∀ x, (enc x).length = n) {g cap : Nat} {R : List Value} (hb : base ≤ g) (hg : Blk w g E (rows enc L ++ R)) (hc : L.length ≤ cap) (hm : cap ≤ maxLen) (hR : R.length = (cap - L.length) * n) : Own enc n base E w (.slice (some ⟨g, 0, none⟩) L.length cap) L := by
  have hl : (rows enc L).length = L.length * n := by rw [rows_length hn L, Nat.mul_comm]
  refine ⟨hl, .inr ⟨g, cap, (rows enc L ++ R).toArray, rfl, hb, hg, hc, hm, ?_, ?_⟩⟩
  · rw [List.size_toArray, List.length_append, hl, hR, ← Nat.add_mul]; congr 1; omega
  · show (rows enc L ++ R).take _ = _; rw [List.take_left' hl]
end
theorem rows_one {α : Type} {enc : α → List Value} (h1 : ∀ x, ∀ u ∈ enc x, u.oneCell' = true) (L : List α) : ∀ v ∈ rows enc L, v.oneCell' = true := by
  intro v hv; unfold rows at hv; obtain ⟨x, _, hx⟩ := List.mem_flatMap.1 hv; exact h1 x v hx
theorem run_copy_rows {P : Program} (w : World) (dT sT ty elem : TypeId) (k b o dLen dCap : Nat) (a : Addr) (sLen sCap m : Nat) (cs : List Value) (hu : P.underlying dT = some (.slice elem)) (hs : (P.info? elem).map (·.size) = some k) (hm : Nat.min sLen dLen = m) (hn : cs.length = m * k)
    (hsrc : ∀ j v, cs[j]? = some v → w.cell? (a.add j) = some v) (hc : ∀ j, j < cs.length → (w.cell? ⟨b, o + j, none⟩).isSome = true) (hf : ∀ j, j < cs.length → w.frozen? ⟨b, o + j, none⟩ = false) (h1 : ∀ v ∈ cs, v.oneCell' = true) :
    (Builtin.copy_ #[dT, sT] ty #[.slice (some ⟨b, o, none⟩) dLen dCap, .slice (some a) sLen sCap]).run P w = .ok (goInt m) (w.setCells b o cs) := by
  have hl := run_firstCells_some (P := P) w k m a sLen sCap cs hn hsrc; have hst := run_storeCells_cells (P := P) b o cs 0 w (by simpa using hc) (by simpa using hf) h1
  cases hq : P.info? elem with
  | none => simp [hq] at hs
  | some i =>
    have hi : i.size = k := by simpa [hq] using hs
    simp [Builtin.copy_, run_underlying hu, Builtin.lenOf, sizeOf, typeInfo, hq, hi, hm, hl, hst]
theorem run_clear_rows {P : Program} (w : World) (t e ty : TypeId) (z : Value) (k b o n c : Nat) (hn : 0 < n) (ht : P.underlying t = some (.slice e)) (hv : ∀ w, (zeroValue e).run P w = .ok z w) (hz : z.cells.size = k) (h1 : ∀ v ∈ z.cells.toList, v.oneCell' = true)
    (hc : ∀ j, j < n * k → (w.cell? ⟨b, o + j, none⟩).isSome = true) (hf : ∀ j, j < n * k → w.frozen? ⟨b, o + j, none⟩ = false) :
    ∃ Z : List Value, Z.length = n * k ∧ (Builtin.clear_ #[t] ty #[.slice (some ⟨b, o, none⟩) n c]).run P w = .ok (.tuple #[]) (w.setCells b o Z) := by
  have hsz : (Builtin.zeroCells z.cells n).toList.length = n * k := by rw [Array.length_toList, size_zeroCells, hz]
  have hone : ∀ v ∈ (Builtin.zeroCells z.cells n).toList, v.oneCell' = true := by
    intro v hv; simp only [Builtin.zeroCells, Array.toList_map, List.mem_map] at hv; obtain ⟨q, hq, rfl⟩ := hv; have hq : q < n * z.cells.size := by simpa using hq
    have hpos : 0 < z.cells.size := by
      rcases Nat.eq_zero_or_pos z.cells.size with h | h
      · rw [h] at hq; omega
      · exact h
    have hlt := Nat.mod_lt q hpos; rw [getElem!_pos z.cells _ hlt]; exact h1 _ (by simp)
  have hst := run_storeCells_cells (P := P) b o (Builtin.zeroCells z.cells n).toList 0 w (by rw [hsz]; simpa using hc) (by rw [hsz]; simpa using hf) hone; refine ⟨_, hsz, ?_⟩; obtain ⟨n', rfl⟩ : ∃ n', n = n' + 1 := ⟨n - 1, by omega⟩
  simp only [Nat.add_zero] at hst; simp [Builtin.clear_, run_underlying ht, hv, hst]
end Go.Proofs.YtkghgaopcgcheaaGreatDoor
