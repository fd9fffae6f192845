/- Parts of the proof of StockReplays, in order. No conditions but those that each theorem states. -/
import Derived.Test.YtkghgaopcgcheaaGreatDoorYStockReplays0
import Derived.Deep.RegionHeld3
import Derived.Deep.Cut
import Derived.Deep.DeepCutAuto
import Derived.Deep.LoopGhost
import Derived.Deep.AppendLies
import Derived.Deep.RegionLaw
import Derived.Lib.ItoaNum
import Derived.Lib.SlTrimSet
import Derived.Lib.SlBytesConst
import Derived.Test.YtkghgaopcgcheaaGreatDoorYStockReplays27
set_option maxRecDepth 100000
set_option maxHeartbeats 16000000
set_option linter.unusedSimpArgs false
set_option linter.unusedVariables false
namespace Go.Proofs.YtkghgaopcgcheaaGreatDoor
open Go.RowKit Go.Maps
theorem Keep.range {w w' : World} (k : Keep [] w w') {b o : Nat} {cs : List Value} (h : w.rangeAt b o cs) : w'.rangeAt b o cs := fun i v hv => k.load (h i v hv)
theorem tikGet_is (o : Option Tik) : ∃ (C : List Value) (b : Bool), tikGetV o = .tuple #[.agg C.toArray, .bool b] ∧ C.length = 38 ∧ ∀ v ∈ C, v.oneCell' = true := by
  cases o with
  | none => exact ⟨_, _, rfl, Tik.cells_length _, Tik.one _⟩
  | some y => exact ⟨_, _, rfl, Tik.cells_length _, Tik.one _⟩
section
variable {X : List Nat} {s d t r l b : Nat} {B : Int} {T : List Tik} {R : List Jar} {K : Dsk} {nn su : Nat}
theorem stock_Known (w : World) (h : Sk X w s d t r l b B T R K nn su) (a g : List UInt8) : Calls Tryz.prog 23 #[.pointer (some ⟨s, 0, none⟩), .string (S a), .string (S g)] w fun e w' => e = .returned (tikGetV (getT a g T)) ∧ Keep [] w w' := by
  obtain ⟨C, bb, hv, hC⟩ := tikGet_is (getT a g T); rw [hv]; have HC := Lib.hid hC; obtain ⟨n, hn⟩ : ∃ n, w.heap.size = n := ⟨_, rfl⟩
  have k1 := (Keep.refl [] w).alloc (.cells Tik.zero.cells.toArray 51); have b1 := Blk.new w Tik.zero.cells 51; rw [hn] at b1; go_enter Tryz.func23, Tryz.ntmps23
  go_upto_region 1 with fail
  (try simp only [hn]); rw [eqT8]; generalize w.alloc (.cells Tik.zero.cells.toArray 51) = w1 at k1 b1 ⊢; have h1 := h.keep0 k1; obtain ⟨c0, c1, c2, c3⟩ := h1.cells; obtain ⟨Y, hst⟩ := h1.st; have HG := Lib.hid (hst.known a g); rw [hv] at HG; have K1 := Lib.hid k1; have HTR := Lib.hid (show ∀ w', Keep [] w1 w' → World.there w' n 0 38 from fun w' k => (k.blk b1 (by simp)).thr 0 38 (by rw [Tik.cells_length]; omega)); have HN := Lib.hid hn; clear h h1 k1 b1 hn hst hv hC; go_wp2_with fail; refine HG.out.mono ?_; rintro e w2 ⟨rfl, k2⟩; have K2 := Lib.hid k2; clear k2 c0 c1 c2 c3
  go_wp2_with (first | ((with_reducible refine gS 6 19 ?_); refine wpList_store_mid rfl 51 (.tmp 6) (.tmp 19) rfl n 0 C.toArray (by rfl) (by rfl) (by simp only [List.size_toArray, HC.out.1]; exact HTR.out _ K2.out) (by simp only [List.size_toArray, HC.out.1]; kernel_rfl) (all_oneCell_toArray HC.out.2) ?_) | fail); have hload := run_loadVar_mid (P := Tryz.prog) (w2.setCells n 0 C) n 0 51 C _ (World.rangeAt_setCells_same w2 n 0 C (by rw [HC.out.1]; exact HTR.out _ K2.out)) Tryz.underlying51 rfl (by rw [HC.out.1]; kernel_rfl); refine bodyPost_ret (v := .tuple #[.agg C.toArray, .bool bb]) (by simp [Act.put, results, Tryz.results23, asAddr, Result.andThen, hload]) rfl ⟨rfl, Keep.cellsTo n (fun hh => by have := HN.out; omega) _ _ _ (K1.out.trans K2.out)⟩
theorem stock_admit {p h : Nat} {name : List UInt8} {sh : ShaS} (w : World) (hp : Pt w p d name h sh false) (kind : List UInt8) (hk : kind.length ≤ maxLen) (pins : Nat) (hpn : pins ≤ 1000) :
    Calls Tryz.prog 109 #[.pointer (some ⟨s, 0, none⟩), .pointer (some ⟨p, 0, none⟩), .string (S kind), .int .i64 (pins : Nat)] w fun e w' => e = .returned (.int .i64 (if 100 < kind.length then 1 else 0)) ∧ w = w' := by
  have HD := Lib.hid (pot_Done w hp); have hsz := S_size kind; have hk' : kind.length ≤ 9223372036854775807 := hk; have q2 : decide ((pins : Int) < 0) = false := decide_eq_false (by omega); have q3 : decide ((pins : Int) > 1000) = false := decide_eq_false (by omega); have q4 : ¬ (1000 : Int) < (pins : Int) := by omega
  have q5 : ¬ (pins : Int) < 0 := by omega
  clear hp hk; by_cases hc : 100 < kind.length
  · rw [if_pos hc]; have q1 : decide ((kind.length : Int) > 100) = true := decide_eq_true (by omega); have q6 : (100 : Int) < (kind.length : Int) := by omega
    go_enter Tryz.func109, Tryz.ntmps109; go_wp2_with fail; go_ret; exact ⟨rfl, rfl⟩
  · rw [if_neg hc]; have q1 : decide ((kind.length : Int) > 100) = false := decide_eq_false (by omega); have q6 : ¬ (100 : Int) < (kind.length : Int) := by omega
    go_enter Tryz.func109, Tryz.ntmps109; go_wp2_with fail; refine HD.out.mono ?_; rintro e we ⟨rfl, rfl⟩; go_wp2_with fail; go_ret; exact ⟨rfl, rfl⟩
theorem stock_pin (w : World) (h : Sk X w s d t r l b B T R K nn su) (dg : Dig) (DC : List Value) (hdc : digC dg = DC) (pins : Nat) (hpn : pins ≤ 1000) :
    Calls Tryz.prog 110 #[.pointer (some ⟨s, 0, none⟩), .agg DC.toArray, .int .i64 (pins : Nat)] w fun e w' => e = .returned (.tuple #[]) ∧ ∃ X', Sk X' w' s d t r l b B T (pinN pins R dg) K nn su ∧ Grow X w X' w' := by
  obtain ⟨RF, hRF⟩ : ∃ z, pinN pins R dg = z := ⟨_, rfl⟩
  rw [hRF]; obtain ⟨n4, hn⟩ : ∃ n, w.heap.size = n := ⟨_, rfl⟩
  have k1 := (Keep.refl [] w).alloc (.cells DC.toArray 25); have b1 := Blk.new w DC 25; rw [hn] at b1; have HDL := Lib.hid (show DC.length = 32 by rw [← hdc]; exact digC_length _); have HP' := Lib.hid (fun (R1 : List Jar) (Y : List Nat) w' (h : St Y w' t r B T R1) => h.pin dg); rw [hdc] at HP'; go_enter Tryz.func110, Tryz.ntmps110
  go_upto_region 1 with fail
  (try simp only [hn]); generalize w.alloc (.cells DC.toArray 25) = w1 at k1 b1 ⊢; have H1 := Lib.hid (show Sk X w1 s d t r l b B T R K nn su ∧ Keep [] w w1 ∧ Blk w1 n4 25 DC ∧ n4 ∉ X from ⟨h.keep0 k1, k1, b1, fun hm => by have := h.lt n4 hm; omega⟩); have HRF := Lib.hid hRF; clear h k1 b1 hn hRF hdc; go_wp2_with fail
  go_loopg [7] pins (fun g i wr => ∃ (k : Nat) (X1 : List Nat) (R1 : List Jar), i = .int .i64 (k : Nat) ∧ k ≤ pins ∧ g = pins - k ∧ Hid (Sk X1 wr s d t r l b B T R1 K nn su ∧ Grow X w1 X1 wr ∧ pinN (pins - k) R1 dg = RF))
  case atStart => exact ⟨0, X, R, rfl, Nat.zero_le _, by omega, Lib.hid ⟨H1.out.1, Grow.refl _ _, HRF.out⟩⟩
  case round =>
    obtain ⟨k, X1, R1, rfl, hk, hgk, HI⟩ := hrel; by_cases hlt : k < pins
    · have f1 : decide ((k : Int) < (pins : Nat)) = true := decide_eq_true (by omega); have wk := IntWalk.i64_in ((k : Int) + 1) (by omega)
      have HC := Lib.hid (show ∀ w', Keep X1 wr w' → w'.cell? ⟨s, 1, none⟩ = some (.pointer (some ⟨r, 0, none⟩)) ∧ w'.rangeAt n4 0 DC from fun w' k => by
        obtain ⟨Y, C, hXX, hb, _, _, _, hsX, _⟩ := HI.out.1; exact ⟨(k.blk hb hsX).get rfl, (k.blk (HI.out.2.1.1.blk H1.out.2.2.1 H1.out.2.2.2) (HI.out.2.1.out' H1.out.2.2.2 H1.out.2.2.1.lt)).rng⟩)
      have HP := Lib.hid (HP'.out R1); have KD := Lib.hid ((Keep.refl [] wr).drew)
      have hpk : pinN (pins - (k + 1)) (pinL R1 dg) dg = RF := by
        have := HI.out.2.2; rw [show pins - k = (pins - (k + 1)) + 1 by omega] at this; exact this
      have HPK := Lib.hid hpk; clear hpk
      go_upto_region 3 with fail
      refine wp_region_held_drew (S := fun w' => Keep X1 wr w') (by kernel_rfl) ((KD.out.mono (by simp))) (fun hHeld => ?_); refine gW 0 ?_; (try simp only [sq]); refine gW 1 ?_; (try simp only [sq]); refine gW 2 ?_; (try simp only [sq]); refine gW 3 ?_; (try simp only [sq]); refine gV 4 (v := ?_) ?_ ?_; rotate_left
      · (intro w' hSw; have c1 := (HC.out w' hSw).1; go_simp) <;> (with_reducible rfl)
      (try simp only [sq]); refine gZ 5 n4 0 (DC) (fun w' hSw => (HC.out w' hSw).2) (by rw [HDL.out]; kernel_rfl) ?_; (try simp only [sq]); refine gR 6 rfl (fun K hK => ?_); go_simp; refine ((HI.out.1.keep0 KD.out).onS (fun Y hY => HP.out Y _ hY)).mono ?_; rintro e w5 ⟨rfl, X5, s5, g5⟩; have H5 := Lib.hid (And.intro s5 (Grow.pre KD.out g5)); have hK5 := (KD.out.mono (S' := X1) (by simp)).trans g5.1; clear s5 g5; (try go_simp); refine hK.out _ _ (hK5) (fun hHeld => ?_); clear hK K; (try simp only [sq]); refine wpAnyH_done (by kernel_rfl) ?_ _; have HF := Lib.hid (show Sk X5 w5 s d t r l b B T (pinL R1 dg) K nn su ∧ Grow X w1 X5 w5 from ⟨H5.out.1, HI.out.2.1.trans H5.out.2⟩); clear hK5 hHeld; go_wp2_with fail
      go_roundg (pins - (k + 1))
      case measure => omega
      case rel => exact ⟨k + 1, X5, _, by go_num, by omega, rfl, Lib.hid ⟨HF.out.1, HF.out.2, HPK.out⟩⟩
    · have hke : k = pins := by omega
      have f1 : decide ((k : Int) < (pins : Nat)) = false := decide_eq_false (by omega); subst hke; have HE := Lib.hid (show R1 = RF by have := HI.out.2.2; rwa [Nat.sub_self] at this); go_wp2_with fail; go_end0; exact ⟨rfl, X1, by rw [← HE.out]; exact HI.out.1, Grow.pre H1.out.2.1 HI.out.2.1⟩
end
end Go.Proofs.YtkghgaopcgcheaaGreatDoor
namespace Go.Proofs.YtkghgaopcgcheaaGreatDoor
open Go.RowKit Go.Maps
theorem Blk.setAll {w : World} {b : Nat} {T : TypeId} {xs : List Value} (h : Blk w b T xs) (vs : List Value) (hl : vs.length = xs.length) : Blk (w.setCells b 0 vs) b T vs := by
  have := Blk.overC vs xs 0 w h; rwa [putAt_all' vs xs hl] at this
where
  putAt_eq' : ∀ (vs xs : List Value) (o : Nat), o + vs.length ≤ xs.length → putAt xs o vs = xs.take o ++ (vs ++ xs.drop (o + vs.length))
    | [], xs, o, _ => by simp [putAt]
    | v :: r, xs, o, h => by
      simp only [List.length_cons] at h; rw [putAt, putAt_eq' r (xs.set o v) (o + 1) (by simp; omega), List.take_add_one, List.getElem?_set_self (by omega), List.take_set_of_le (Nat.le_refl _), List.drop_set_of_lt (by omega)]; simp [Nat.add_assoc, Nat.add_comm 1]
  putAt_all' (vs xs : List Value) (h : vs.length = xs.length) : putAt xs 0 vs = vs := by
    rw [putAt_eq' vs xs 0 (by omega), h]; simp
theorem wp_b4' {o : Oper} {a : Act} {w : World} {K : Act → World → Prop} {Q : Exit → Act → World → Prop} {T : TypeId} {n0 n1 n2 n3 : Nat} {v0 v1 v2 v3 : Value} {cs : List Value} (HB : Hid (Tryz.prog.built T [(n0, v0), (n1, v1), (n2, v2), (n3, v3)] = some cs.toArray)) (x0 x1 x2 x3 : Operand)
    (ho : o.op = .build T #[(n0, x0), (n1, x1), (n2, x2), (n3, x3)]) (h0 : a.eval x0 = v0) (h1 : a.eval x1 = v1) (h2 : a.eval x2 = v2) (h3 : a.eval x3 = v3) (h : K (a.put o.dst (.agg cs.toArray)) w) : o.wp Tryz.prog a w K Q := by
  have e : (#[(n0, x0), (n1, x1), (n2, x2), (n3, x3)].map fun (i, x) => (i, a.eval x)).toList = [(n0, v0), (n1, v1), (n2, v2), (n3, v3)] := by simp [h0, h1, h2, h3]
  refine wp_build _ _ ho (by rw [e, HB.out]; rfl) ?_; rw [e, HB.out]; exact h
section
variable {X : List Nat} {s d t r l b : Nat} {B : Int}
theorem sk_pot {w w' : World} {t0 : List Tik} {R : List Jar} {K K' : Dsk} {nn su p : Nat} {C S' : List Nat} (_hS : Sk X w s d t r l b B t0 R K nn su) (hpX : p ∉ X) (hps : p ≠ s) (hpb : p ≠ b) (hg : ¬ isG p) (hlt : p < w.heap.size) (_hCX : ∀ x ∈ C, x ∈ X)
    (hre : ∀ (Q C' : List Nat) (w' : World) (K' : Dsk), (∀ q ∈ Q, q ∉ X ∧ q ≠ s ∧ q ≠ b ∧ ¬ isG q) → Pk C' w' d K' → Keep (Q ++ C) w w' → (∀ x ∈ C', x ∈ C ∨ w.heap.size ≤ x) → ∃ X', Sk X' w' s d t r l b B t0 R K' nn su ∧ Keep (Q ++ X) w w' ∧ (∀ x ∈ X', x ∈ X ∨ w.heap.size ≤ x) ∧ (∀ x ∈ X', x ∈ X ∨ x ∈ C'))
    (pk : Pk S' w' d K') (g : Grow (p :: C) w (p :: S') w') (hpS : p ∉ S') : ∃ X', Sk X' w' s d t r l b B t0 R K' nn su ∧ Grow (p :: X) w (p :: X') w' ∧ p ∉ X' ∧ ∀ x ∈ X', x ∈ X ∨ x ∈ S' := by
  obtain ⟨X', h1, h2, h3, h4⟩ := hre [p] S' w' K' (fun q hq => by simp at hq; subst hq; exact ⟨hpX, hps, hpb, hg⟩) pk g.1 (fun x hx => by
    rcases g.2 x (List.mem_cons_of_mem _ hx) with e | e
    · rcases List.mem_cons.1 e with rfl | e
      · exact absurd hx hpS
      · exact .inl e
    · exact .inr e)
  refine ⟨X', h1, ⟨h2, fun x hx => ?_⟩, fun hm => ?_, h4⟩
  · rcases List.mem_cons.1 hx with rfl | hx
    · exact .inl List.mem_cons_self
    · exact (h3 x hx).imp (List.mem_cons_of_mem _) id
  · rcases h3 p hm with e | e
    · exact hpX e
    · omega
theorem stock_Keep {p h : Nat} {name : List UInt8} {sh : ShaS} (w : World) (st st' : Stk) (e' : Int) (hS : Sk X w s d t r l b B st.T st.R st.K st.nn st.su) (hp : Pt w p d name h sh false) (hpX : p ∉ X) (hhX : h ∉ X) (hps : p ≠ s) (hpb : p ≠ b)
    (dg : Dig) (DC : List Value) (hdc : digC dg = DC) (hd : shaSum sh = dg) (hz : 0 ≤ sh.size) (kind : List UInt8) (hkl : kind.length ≤ maxLen) (pins : Nat) (hpn : pins ≤ 1000) (hk : keepP B name dg sh.size kind pins st = some (st', e')) :
    Calls Tryz.prog 55 #[.pointer (some ⟨s, 0, none⟩), .pointer (some ⟨p, 0, none⟩), .agg DC.toArray, .string (S kind), .int .i64 (pins : Nat)] w fun e w' => e = .returned (.int .i64 e') ∧ ∃ X', Sk X' w' s d t r l b B st'.T st'.R st'.K st'.nn st'.su ∧ Grow (p :: X) w (p :: X') w' := by
  obtain ⟨n7, hn⟩ : ∃ n, w.heap.size = n := ⟨_, rfl⟩
  have k1 := (Keep.refl [] w).alloc (.cells DC.toArray 25); have b1 := Blk.new w DC 25; rw [hn] at b1; have HDL := Lib.hid (show DC.length = 32 by rw [← hdc]; exact digC_length _); have hplt := hp.blk.lt; have HAD := Lib.hid (fun w' (k : Keep [] w w') => stock_admit (s := s) w' (hp.keep0 k) kind hkl pins hpn); go_enter Tryz.func55, Tryz.ntmps55
  go_upto_region 1 with fail
  (try simp only [hn]); generalize w.alloc (.cells DC.toArray 25) = w1 at k1 b1 ⊢; have H1 := Lib.hid (show Sk X w1 s d t r l b B st.T st.R st.K st.nn st.su ∧ Keep [] w w1 ∧ Blk w1 n7 25 DC ∧ n7 ∉ p :: X ∧ Pt w1 p d name h sh false from ⟨hS.keep0 k1, k1, b1, fun hm => by rcases List.mem_cons.1 hm with rfl | hm; omega; have := hS.lt n7 hm; omega, hp.keep0 k1⟩); have HN := Lib.hid (show p ∉ X ∧ h ∉ X ∧ p ≠ s ∧ p ≠ b ∧ ¬ isG p from ⟨hpX, hhX, hps, hpb, hp.ng.1⟩); have HDC := Lib.hid hdc; have HSD := Lib.hid (And.intro hd hz); have HKL := Lib.hid hkl; clear k1 b1 hn hS hp hpX hhX hps hpb hd hz hplt hkl hdc; unfold keepP at hk; have KP := Lib.hid hk; clear hk; by_cases hkd : 100 < kind.length
  · rw [if_pos hkd] at KP HAD; obtain ⟨rfl, rfl⟩ : st = st' ∧ 1 = e' := by have := KP.out; injection this with this; exact Prod.mk.inj this
    go_wp2_with fail; refine (HAD.out w1 H1.out.2.1).mono ?_; rintro e we ⟨rfl, rfl⟩; go_wp2_with fail; go_ret; exact ⟨rfl, X, H1.out.1, (Grow.of H1.out.2.1).wid p⟩
  rw [if_neg hkd] at KP HAD; go_wp2_with fail; refine (HAD.out w1 H1.out.2.1).mono ?_; rintro e we ⟨rfl, rfl⟩; clear HAD hkd
  have HGE := Lib.hid (fun w' (k : Keep [] w1 w') => by
    obtain ⟨Y, hst⟩ := (H1.out.1.keep0 k).st; exact hst.get dg)
  obtain ⟨JC, hJC⟩ : ∃ z, (getJ st.R dg).cells = z := ⟨_, rfl⟩
  have HJC := Lib.hid (show JC.length = 35 ∧ ∀ v ∈ JC, v.oneCell' = true from ⟨by rw [← hJC]; exact Jar.cells_length _, by rw [← hJC]; exact Jar.one _⟩); rw [hJC, HDC.out] at HGE
  have HC := Lib.hid (show ∀ w', Keep [] w1 w' → w'.cell? ⟨s, 1, none⟩ = some (.pointer (some ⟨r, 0, none⟩)) ∧ w'.rangeAt n7 0 DC from fun w' k =>
    ⟨((H1.out.1.keep0 k).cells).2.1, (k.blk H1.out.2.2.1 (by simp)).rng⟩)
  clear hJC
  go_upto_region 4 with fail
  go_cut [13] (fun v wx => v = .bool (hasJ st.R dg) ∧ Hid (Keep [] w1 wx))
  case first =>
      refine wp_region_held_drew (S := fun w' => Keep [] w1 w') (by kernel_rfl) ((Keep.refl [] w1).drew) (fun hHeld => ?_); refine gW 0 ?_; (try simp only [sq]); refine gW 1 ?_; (try simp only [sq]); refine gW 2 ?_; (try simp only [sq]); refine gW 3 ?_; (try simp only [sq]); refine gV 4 (v := ?_) ?_ ?_; rotate_left
      · (intro w' hSw; have c1 := (HC.out w' hSw).1; go_simp) <;> (with_reducible rfl)
      (try simp only [sq]); refine gZ 5 n7 0 (DC) (fun w' hSw => ((HC.out w' hSw).2)) (by rw [HDL.out]; kernel_rfl) ?_; (try simp only [sq]); refine wpAnyH_ready (rs := [6, 10]) (by kernel_rfl) (by simp) (AllReadyH.cons rfl (fun K hK => ?_) (AllReadyH.cons rfl (fun K hK => ?_) AllReadyH.nil))
      · go_simp; refine (HGE.out _ hHeld).mono ?_; rintro e wq ⟨rfl, kq⟩; have kk := hHeld.trans kq; try (have hbX := kq.blk hbX (by simp))
        clear kq; (try go_simp); refine hK.out _ _ (kk) (fun hHeld => ?_); clear hK K; (try simp only [sq]); refine gW 7 ?_; (try simp only [sq]); refine gW 8 ?_; (try simp only [sq]); refine gW 9 ?_; (try simp only [sq]); refine gR 10 rfl (fun K hK => ?_); go_simp; have hbX := Blk.new (wq) jar0.cells 63; have hbn := hHeld.size; rw [eqJ8]; refine hK.out _ _ (hHeld.alloc _) (fun hHeld => ?_); clear hK K; (try simp only [sq]); refine gR 11 rfl (fun K hK => ?_); rw [if_pos (by rfl)]; refine wp_store_mid 63 (.tmp 12) (.tmp 33) rfl _ 0 JC.toArray (by rfl) (by rfl) (by simp only [List.size_toArray, HJC.out.1]; exact hbX.thr 0 35 (by rw [Jar.cells_length]; omega)) (by simp only [List.size_toArray, HJC.out.1]; kernel_rfl) (all_oneCell_toArray HJC.out.2) ?_; refine hK.out _ _ (Keep.cellsTo _ (fun hh => absurd hh (Nat.not_lt.2 hbn)) _ _ _ hHeld) (fun hHeld => ?_); clear hK K; (try simp only [sq]); refine gW 12 ?_; (try simp only [sq]); refine wpAnyH_done (by kernel_rfl) ?_ _; go_wp2_with fail; go_meet; exact ⟨rfl, Lib.hid hHeld⟩
      · go_simp; have hbX := Blk.new ((World.drew w1)) jar0.cells 63; have hbn := hHeld.size; rw [eqJ8]; refine hK.out _ _ (hHeld.alloc _) (fun hHeld => ?_); clear hK K; (try simp only [sq]); refine gR 6 rfl (fun K hK => ?_); go_simp; refine (HGE.out _ hHeld).mono ?_; rintro e wq ⟨rfl, kq⟩; have kk := hHeld.trans kq; try (have hbX := kq.blk hbX (by simp))
        clear kq; (try go_simp); refine hK.out _ _ (kk) (fun hHeld => ?_); clear hK K; (try simp only [sq]); refine gW 7 ?_; (try simp only [sq]); refine gW 8 ?_; (try simp only [sq]); refine gW 9 ?_; (try simp only [sq]); refine gR 11 rfl (fun K hK => ?_); rw [if_pos (by rfl)]; refine wp_store_mid 63 (.tmp 12) (.tmp 33) rfl _ 0 JC.toArray (by rfl) (by rfl) (by simp only [List.size_toArray, HJC.out.1]; exact hbX.thr 0 35 (by rw [Jar.cells_length]; omega)) (by simp only [List.size_toArray, HJC.out.1]; kernel_rfl) (all_oneCell_toArray HJC.out.2) ?_; refine hK.out _ _ (Keep.cellsTo _ (fun hh => absurd hh (Nat.not_lt.2 hbn)) _ _ _ hHeld) (fun hHeld => ?_); clear hK K; (try simp only [sq]); refine gW 12 ?_; (try simp only [sq]); refine wpAnyH_done (by kernel_rfl) ?_ _; go_wp2_with fail; go_meet; exact ⟨rfl, Lib.hid hHeld⟩
  case rest =>
  obtain ⟨rfl, K2⟩ := hcut; clear HGE HC HJC; have H2 := Lib.hid (show Sk X wc s d t r l b B st.T st.R st.K st.nn st.su ∧ Keep [] w wc ∧ Blk wc n7 25 DC ∧ Pt wc p d name h sh false from ⟨H1.out.1.keep0 K2.out, H1.out.2.1.trans K2.out, K2.out.blk H1.out.2.2.1 (by simp), H1.out.2.2.2.2.keep0 K2.out⟩)
  cases hj : hasJ st.R dg with
  | true =>
    rw [if_pos hj] at KP; obtain ⟨K1, hdel, hq⟩ := Option.map_eq_some_iff.1 KP.out; obtain ⟨rfl, rfl⟩ := Prod.mk.inj hq
    have HDR := Lib.hid (show Calls Tryz.prog 54 #[.pointer (some ⟨p, 0, none⟩)] wc fun e w' => e = .returned (.tuple #[]) ∧ ∃ X', Sk X' w' s d t r l b B st.T st.R K1 st.nn st.su ∧ Grow (p :: X) wc (p :: X') w' ∧ p ∉ X' from by
      obtain ⟨C, hpk, hgp, hbC, hCX, hre⟩ := H2.out.1.disk; refine (pot_Drop st.K K1 wc H2.out.2.2.2 hpk hgp (fun hm => HN.out.1 (hCX p hm)) (fun hm => HN.out.2.1 (hCX h hm)) hdel).mono ?_; rintro e w' ⟨he, S', pk', g', hpS⟩; obtain ⟨X', q1, q2, q3, q4⟩ := sk_pot H2.out.1 HN.out.1 HN.out.2.2.1 HN.out.2.2.2.1 HN.out.2.2.2.2 H2.out.2.2.2.blk.lt hCX hre pk' g' hpS; exact ⟨he, X', q1, q2, q3⟩)
    clear KP hdel hq hj; go_wp2_with fail; refine HDR.out.mono ?_; rintro e w3 ⟨rfl, X3, s3, g3, hpX3⟩; have H3 := Lib.hid (show Sk X3 w3 s d t r l b B st.T st.R K1 st.nn st.su ∧ Grow (p :: X) w (p :: X3) w3 ∧ Blk w3 n7 25 DC from ⟨s3, Grow.pre H2.out.2.1 g3, g3.1.blk H2.out.2.2.1 H1.out.2.2.2.1⟩); clear s3 g3 hpX3 HDR; have HPN := Lib.hid (fun w' (h : Sk X3 w' s d t r l b B st.T st.R K1 st.nn st.su) => stock_pin w' h dg DC HDC.out pins hpn)
    go_wp2_with (first | ((with_reducible refine gL 39 7 ?_); refine gl n7 0 DC H3.out.2.2.rng (by rw [HDL.out]; kernel_rfl) ?_; try simp only [sq]) | fail); refine (HPN.out _ H3.out.1).mono ?_; rintro e w4 ⟨rfl, X4, s4, g4⟩; have H4 := Lib.hid (And.intro s4 (H3.out.2.1.trans (g4.wid p))); clear s4 g4 HPN; go_wp2_with fail; go_ret; exact ⟨rfl, X4, H4.out⟩
  | false =>
    rw [if_neg (by rw [hj]; simp)] at KP; obtain ⟨s1, ht1, hq⟩ := Option.bind_eq_some_iff.1 KP.out; obtain ⟨m1, htr1, hT1⟩ := trm_of ht1; have HQ := Lib.hid hq; have HTR := Lib.hid (stock_trim wc H2.out.1 htr1); rw [← hT1] at HTR; clear KP hj ht1 hq htr1 hT1; go_wp2_with fail; refine HTR.out.mono ?_; rintro e w3 ⟨rfl, X3, s3, g3⟩; obtain ⟨hpt3, hpX3, hhX3⟩ := H2.out.2.2.2.grow g3 H2.out.1.gp HN.out.1 HN.out.2.1
    have H3 := Lib.hid (show Sk X3 w3 s d t r l b B s1.T s1.R s1.K s1.nn s1.su ∧ Grow (p :: X) w (p :: X3) w3 ∧ Blk w3 n7 25 DC ∧ Pt w3 p d name h sh false ∧ n7 ∉ p :: X3 ∧ p ∉ X3 ∧ h ∉ X3 from
      ⟨s3, Grow.pre H2.out.2.1 (g3.wid p), g3.1.blk H2.out.2.2.1 (fun hm => H1.out.2.2.2.1 (by simp [hm])), hpt3, fun hm => by
        rcases List.mem_cons.1 hm with hm | hm
        · exact H1.out.2.2.2.1 (by simp [hm])
        · exact g3.out' (fun hm => H1.out.2.2.2.1 (by simp [hm])) H2.out.2.2.1.lt hm, hpX3, hhX3⟩)
    clear s3 g3 HTR hpt3 hpX3 hhX3 H2; obtain ⟨c0, c1, c2, c3⟩ := H3.out.1.cells; obtain ⟨Y3, hst3⟩ := H3.out.1.st; have HLE := Lib.hid hst3.len; have hmo := hst3.most.1; clear hst3; by_cases h64 : 64 ≤ s1.R.length
    · have HQ1 := HQ.out; rw [if_pos h64] at HQ1; obtain ⟨K1, hdel, hq⟩ := Option.map_eq_some_iff.1 HQ1; obtain ⟨rfl, rfl⟩ := Prod.mk.inj hq; have f64 : decide ((s1.R.length : Int) ≥ 64) = true := decide_eq_true (by omega); have g64 : (64 : Int) ≤ (s1.R.length : Int) := by omega
      have HDR := Lib.hid (show ∀ w' (k : Keep [] w3 w'), Calls Tryz.prog 54 #[.pointer (some ⟨p, 0, none⟩)] w' fun e w'' => e = .returned (.tuple #[]) ∧ ∃ X', Sk X' w'' s d t r l b B s1.T s1.R K1 s1.nn s1.su ∧ Grow (p :: X3) w' (p :: X') w'' from fun w' k => by
        have hsk := H3.out.1.keep0 k; have hpt := H3.out.2.2.2.1.keep0 k; obtain ⟨C, hpk, hgp, hbC, hCX, hre⟩ := hsk.disk; refine (pot_Drop s1.K K1 w' hpt hpk hgp (fun hm => H3.out.2.2.2.2.2.1 (hCX p hm)) (fun hm => H3.out.2.2.2.2.2.2 (hCX h hm)) hdel).mono ?_; rintro e w'' ⟨he, S', pk', g', hpS⟩; obtain ⟨X', q1, q2, q3, q4⟩ := sk_pot hsk H3.out.2.2.2.2.2.1 HN.out.2.2.1 HN.out.2.2.2.1 HN.out.2.2.2.2 hpt.blk.lt hCX hre pk' g' hpS; exact ⟨he, X', q1, q2⟩)
      clear HQ HQ1 hdel hq h64 hmo; go_wp2_with fail; refine HLE.out.mono ?_; rintro e w4 ⟨rfl, k4⟩; have K4 := Lib.hid k4; clear k4 HLE c0 c1 c2 c3; go_wp2_with fail; refine (HDR.out _ K4.out).mono ?_; rintro e w5 ⟨rfl, X5, s5, g5⟩; have H5 := Lib.hid (And.intro s5 (H3.out.2.1.trans (Grow.pre K4.out g5))); clear s5 g5; go_wp2_with fail; go_ret; exact ⟨rfl, X5, H5.out⟩
    · have HQ1 := HQ.out; rw [if_neg h64] at HQ1; obtain ⟨Km, hsy, hq⟩ := Option.bind_eq_some_iff.1 HQ1; obtain ⟨Kc, hrn, hq⟩ := Option.bind_eq_some_iff.1 hq; obtain ⟨s2, hch, hq⟩ := Option.bind_eq_some_iff.1 hq; obtain ⟨s4, htr, hq⟩ := Option.map_eq_some_iff.1 hq; obtain ⟨rfl, rfl⟩ := Prod.mk.inj hq; obtain ⟨hgs, hn1, hs1, hchg, hcT, hcR⟩ := chg_of hch; obtain ⟨m2, htr2, hT2⟩ := trm_of htr; have f64 : decide ((s1.R.length : Int) ≥ 64) = false := decide_eq_false (by omega); have g64 : ¬ (64 : Int) ≤ (s1.R.length : Int) := by omega
      have HCM := Lib.hid (show ∀ w' (k : Keep [] w3 w'), Calls Tryz.prog 112 #[.pointer (some ⟨p, 0, none⟩), .agg DC.toArray] w' fun e w'' => e = .returned (.int .i64 0) ∧ ∃ X', Sk X' w'' s d t r l b B s1.T s1.R Kc s1.nn s1.su ∧ Grow (p :: X3) w' (p :: X') w'' ∧ Pt w'' p d name h sh true from fun w' k => by
        have hsk := H3.out.1.keep0 k; have hpt := H3.out.2.2.2.1.keep0 k; obtain ⟨C, hpk, hgp, hbC, hCX, hre⟩ := hsk.disk; have := pot_Commit s1.K Km Kc dg w' hpt hpk hgp (fun hm => H3.out.2.2.2.2.2.1 (hCX p hm)) (fun hm => H3.out.2.2.2.2.2.2 (hCX h hm)) HSD.out.2 HSD.out.1 hsy hrn; rw [HDC.out] at this; refine this.mono ?_; rintro e w'' ⟨he, S', pk', pt', g', hpS, hhS⟩; obtain ⟨X', q1, q2, q3, q4⟩ := sk_pot hsk H3.out.2.2.2.2.2.1 HN.out.2.2.1 HN.out.2.2.2.1 HN.out.2.2.2.2 hpt.blk.lt hCX hre pk' g' hpS; exact ⟨he, X', q1, q2, pt'⟩)
      obtain ⟨XC, hXC⟩ : ∃ z, (⟨4, [], [], dg, kind, sh.size, 0⟩ : Slp).cells = z := ⟨_, rfl⟩
      have HXC := Lib.hid (show XC.length = 38 ∧ ∀ v ∈ XC, v.oneCell' = true from ⟨by rw [← hXC]; exact Slp.cells_length _, by rw [← hXC]; exact Slp.one _⟩); have HBD := Lib.hid (bd_slipB dg kind sh.size); rw [hXC, HDC.out] at HBD; have HCH := Lib.hid (fun (X' : List Nat) w' (h : Sk X' w' s d t r l b B s1.T s1.R Kc s1.nn s1.su) => stock_change ⟨4, [], [], dg, kind, sh.size, 0⟩ XC hXC true Kc s2.K s1.nn s1.su s2.nn s2.su w' h hgs hn1 hs1 hchg); have hcT' : applyT ⟨4, [], [], dg, kind, sh.size, 0⟩ s1.T = s2.T := hcT.symm; have hcR' : applyR ⟨4, [], [], dg, kind, sh.size, 0⟩ s1.R = s2.R := hcR.symm; rw [hcT', hcR'] at HCH; have HT2 := Lib.hid (And.intro htr2 hT2); clear HQ HQ1 hq hsy hrn hch htr hgs hn1 hs1 hchg hcT hcR htr2 hT2 h64 hmo hXC hcT' hcR'; go_wp2_with fail; refine HLE.out.mono ?_; rintro e w4 ⟨rfl, k4⟩; have K4 := Lib.hid k4; have B4 := Lib.hid (K4.out.blk H3.out.2.2.1 (by simp)); clear k4 HLE c0 c1 c2 c3
      go_wp2_with (first | ((with_reducible refine gL 54 7 ?_); refine gl n7 0 DC B4.out.rng (by rw [HDL.out]; kernel_rfl) ?_; try simp only [sq]) | fail); refine (HCM.out _ K4.out).mono ?_; rintro e w8 ⟨rfl, X8, s8, g8, pt8⟩
      have H8 := Lib.hid (show Sk X8 w8 s d t r l b B s1.T s1.R Kc s1.nn s1.su ∧ Grow (p :: X) w (p :: X8) w8 ∧ Blk w8 n7 25 DC ∧ n7 ∉ X8 from
        ⟨s8, H3.out.2.1.trans (Grow.pre K4.out g8), g8.1.blk B4.out H3.out.2.2.2.2.1, fun hm => g8.out' H3.out.2.2.2.2.1 B4.out.lt (List.mem_cons_of_mem _ hm)⟩)
      have HPT := Lib.hid (fun w' (k : Keep [] w8 w') => pt8.keep0 k); have HC8 := Lib.hid (show ∀ w', Keep [] w8 w' → w'.rangeAt n7 0 DC from fun w' k => (k.blk H8.out.2.2.1 (by simp)).rng); clear s8 g8 pt8 HCM
      go_upto_region 17 with fail
      go_cut [15] (fun v wx => ∃ n5, v = .pointer (some ⟨n5, 0, none⟩) ∧ Hid (Keep [] w8 wx ∧ Blk wx n5 27 XC ∧ w8.heap.size ≤ n5))
      case first =>
              refine wp_region_held_drew (S := fun w' => Keep [] w8 w') (by kernel_rfl) ((Keep.refl [] w8).drew) (fun hHeld => ?_); refine gZ 0 n7 0 (DC) (fun w' hSw => (HC8.out w' hSw)) (by rw [HDL.out]; kernel_rfl) ?_; (try simp only [sq]); refine gW 1 ?_; (try simp only [sq]); refine gW 2 ?_; (try simp only [sq]); refine wpAnyH_ready (rs := [3, 5]) (by kernel_rfl) (by simp) (AllReadyH.cons rfl (fun K hK => ?_) (AllReadyH.cons rfl (fun K hK => ?_) AllReadyH.nil))
              · go_simp; refine (pot_Size _ (HPT.out _ hHeld)).mono ?_; rintro e wq ⟨rfl, rfl⟩; (try go_simp); refine hK.out _ _ (hHeld) (fun hHeld => ?_); clear hK K; (try simp only [sq]); refine wpAnyH_ready (rs := [4, 5]) (by kernel_rfl) (by simp) (AllReadyH.cons rfl (fun K hK => ?_) (AllReadyH.cons rfl (fun K hK => ?_) AllReadyH.nil))
                · rw [if_pos (by rfl)]; refine wp_b4' (cs := XC) (by exact HBD) _ _ _ _ rfl (by rfl) (by rfl) (by rfl) (by rfl) ?_; refine hK.out _ _ (hHeld) (fun hHeld => ?_); clear hK K; (try simp only [sq]); refine gR 5 rfl (fun K hK => ?_); go_simp; have hbX := Blk.new ((World.drew w8)) Slp.zero.cells 27; have hbn := hHeld.size; rw [eqS8]; refine hK.out _ _ (hHeld.alloc _) (fun hHeld => ?_); clear hK K; (try simp only [sq]); refine gR 6 rfl (fun K hK => ?_); rw [if_pos (by rfl)]; refine wp_store_mid 27 (.tmp 15) (.tmp 65) rfl _ 0 XC.toArray (by rfl) (by rfl) (by simp only [List.size_toArray, HXC.out.1]; exact hbX.thr 0 38 (by rw [Slp.cells_length]; omega)) (by simp only [List.size_toArray, HXC.out.1]; kernel_rfl) (all_oneCell_toArray HXC.out.2) ?_; refine hK.out _ _ (Keep.cellsTo _ (fun hh => absurd hh (Nat.not_lt.2 hbn)) _ _ _ hHeld) (fun hHeld => ?_); clear hK K; (try simp only [sq]); refine wpAnyH_done (by kernel_rfl) ?_ _; go_wp2_with fail; go_meet; exact ⟨_, rfl, Lib.hid ⟨hHeld, hbX.setAll XC (by rw [HXC.out.1, Slp.cells_length]), hbn⟩⟩
                · go_simp; have hbX := Blk.new ((World.drew w8)) Slp.zero.cells 27; have hbn := hHeld.size; rw [eqS8]; refine hK.out _ _ (hHeld.alloc _) (fun hHeld => ?_); clear hK K; (try simp only [sq]); refine gR 4 rfl (fun K hK => ?_); rw [if_pos (by rfl)]; refine wp_b4' (cs := XC) (by exact HBD) _ _ _ _ rfl (by rfl) (by rfl) (by rfl) (by rfl) ?_; refine hK.out _ _ (hHeld) (fun hHeld => ?_); clear hK K; (try simp only [sq]); refine gR 6 rfl (fun K hK => ?_); rw [if_pos (by rfl)]; refine wp_store_mid 27 (.tmp 15) (.tmp 65) rfl _ 0 XC.toArray (by rfl) (by rfl) (by simp only [List.size_toArray, HXC.out.1]; exact hbX.thr 0 38 (by rw [Slp.cells_length]; omega)) (by simp only [List.size_toArray, HXC.out.1]; kernel_rfl) (all_oneCell_toArray HXC.out.2) ?_; refine hK.out _ _ (Keep.cellsTo _ (fun hh => absurd hh (Nat.not_lt.2 hbn)) _ _ _ hHeld) (fun hHeld => ?_); clear hK K; (try simp only [sq]); refine wpAnyH_done (by kernel_rfl) ?_ _; go_wp2_with fail; go_meet; exact ⟨_, rfl, Lib.hid ⟨hHeld, hbX.setAll XC (by rw [HXC.out.1, Slp.cells_length]), hbn⟩⟩
              · go_simp; have hbX := Blk.new ((World.drew w8)) Slp.zero.cells 27; have hbn := hHeld.size; rw [eqS8]; refine hK.out _ _ (hHeld.alloc _) (fun hHeld => ?_); clear hK K; (try simp only [sq]); refine gR 3 rfl (fun K hK => ?_); go_simp; refine (pot_Size _ (HPT.out _ hHeld)).mono ?_; rintro e wq ⟨rfl, rfl⟩; (try go_simp); refine hK.out _ _ (hHeld) (fun hHeld => ?_); clear hK K; (try simp only [sq]); refine gR 4 rfl (fun K hK => ?_); rw [if_pos (by rfl)]; refine wp_b4' (cs := XC) (by exact HBD) _ _ _ _ rfl (by rfl) (by rfl) (by rfl) (by rfl) ?_; refine hK.out _ _ (hHeld) (fun hHeld => ?_); clear hK K; (try simp only [sq]); refine gR 6 rfl (fun K hK => ?_); rw [if_pos (by rfl)]; refine wp_store_mid 27 (.tmp 15) (.tmp 65) rfl _ 0 XC.toArray (by rfl) (by rfl) (by simp only [List.size_toArray, HXC.out.1]; exact hbX.thr 0 38 (by rw [Slp.cells_length]; omega)) (by simp only [List.size_toArray, HXC.out.1]; kernel_rfl) (all_oneCell_toArray HXC.out.2) ?_; refine hK.out _ _ (Keep.cellsTo _ (fun hh => absurd hh (Nat.not_lt.2 hbn)) _ _ _ hHeld) (fun hHeld => ?_); clear hK K; (try simp only [sq]); refine wpAnyH_done (by kernel_rfl) ?_ _; go_wp2_with fail; go_meet; exact ⟨_, rfl, Lib.hid ⟨hHeld, hbX.setAll XC (by rw [HXC.out.1, Slp.cells_length]), hbn⟩⟩
      case rest =>
      obtain ⟨n5, rfl, K9⟩ := hcut; go_wp2_with (first | ((with_reducible refine gL 67 15 ?_); refine gl n5 0 XC K9.out.2.1.rng (by rw [HXC.out.1]; kernel_rfl) ?_; try simp only [sq]) | fail); refine (HCH.out X8 _ (H8.out.1.keep0 K9.out.1)).mono ?_; rintro e wa ⟨rfl, Xa, sa, ga⟩
      have Ha := Lib.hid (show Sk Xa wa s d t r l b B s2.T s2.R s2.K s2.nn s2.su ∧ Grow (p :: X) w (p :: Xa) wa ∧ Blk wa n7 25 DC from
        ⟨sa, H8.out.2.1.trans (Grow.pre K9.out.1 (ga.wid p)), ga.1.blk (K9.out.1.blk H8.out.2.2.1 (by simp)) H8.out.2.2.2⟩)
      clear sa ga HCH; have HPN := Lib.hid (fun w' (h : Sk Xa w' s d t r l b B s2.T s2.R s2.K s2.nn s2.su) => stock_pin w' h dg DC HDC.out pins hpn)
      go_wp2_with (first | ((with_reducible refine gL 79 7 ?_); refine gl n7 0 DC Ha.out.2.2.rng (by rw [HDL.out]; kernel_rfl) ?_; try simp only [sq]) | fail); refine (HPN.out _ Ha.out.1).mono ?_; rintro e wb ⟨rfl, Xb, sb, gb⟩; have Hb := Lib.hid (And.intro sb (Ha.out.2.1.trans (gb.wid p))); clear sb gb HPN; go_wp2_with fail; refine (stock_trim _ Hb.out.1 HT2.out.1).mono ?_; rintro e wc ⟨rfl, Xc, sc, gc⟩; have Hc := Lib.hid (show Sk Xc wc s d t r l b B s4.T s4.R s4.K s4.nn s4.su ∧ Grow (p :: X) w (p :: Xc) wc from ⟨by rw [HT2.out.2]; exact sc, Hb.out.2.trans (gc.wid p)⟩); clear sc gc; go_wp2_with fail; go_ret; exact ⟨rfl, Xc, Hc.out⟩
end
end Go.Proofs.YtkghgaopcgcheaaGreatDoor
