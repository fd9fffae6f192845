/- Parts of the proof of ErrandJudges, in order. No conditions but those that each theorem states. -/
import Derived.Test.YtlhnjkekjbbhcaaGreatDoorYErrandJudges0
import Derived.Lib.SlBytesConst
import Derived.Lib.LaidTab
import Derived.Lib.ItoaNum
import Derived.Lib.ItoaLen
import Derived.Sort.Grow
import Derived.Deep.MidRow
import Derived.DeepKeys4
import Derived.Test.YtlhnjkekjbbhcaaGreatDoorYErrandJudges25
import Derived.Test.YtlhnjkekjbbhcaaGreatDoorYErrandJudges26
namespace Go.Proofs.YtlhnjkekjbbhcaaGreatDoor
open Go.RowKit Go.Shelf
def smallIn (k : Ky) (t : Tk) (a : Ans) : Prop := k.repo.length + k.tag.length + t.typ.length ≤ 1000 ∧ a.F.length ≤ 40 ∧ ∀ f ∈ a.F, f.name.length + f.value.length ≤ 1000
def GreatOut (w : World) (k : Ky) (t : Tk) (a : Ans) (e : Ending) (w' : World) : Prop := ∃ v : Bool, e = .returned (.bool v) ∧ (v = false → smallIn k t a) ∧ Keep [] w w'
set_option maxRecDepth 100000 in
set_option maxHeartbeats 8000000 in
theorem law24_great (k : Ky) (t : Tk) (a : Ans) (va : Value) (w : World) (ha : AnOk w a va) (hk1 : k.repo.length ≤ 140737488351232) (hk2 : k.tag.length ≤ 140737488351232) (ht : t.typ.length ≤ 140737488351232) :
    Calls Tryz.prog 9 #[.agg k.cells.toArray, .agg t.cells.toArray, .agg (ansC a.st va a.len a.ch a.cl).toArray] w (GreatOut w k t a) := by
  have M0 := Lib.hid (Mem.nil w); have hz1 : (S k.repo).size = k.repo.length := rfl; have hz2 : (S k.tag).size = k.tag.length := rfl; have hz3 : (S t.typ).size = t.typ.length := rfl; obtain ⟨aa, ca, rfl, hal⟩ := ha.sl.shape; have HA := Lib.hid ha; have hal' : a.F.length ≤ 9223372036854775807 := hal; have c1 : k.cells[1]? = some (.string (S k.repo)) := rfl; have c2 : k.cells[2]? = some (.string (S k.tag)) := rfl; have C1 := Lib.hid c1; have C2 := Lib.hid c2; have C35 := Lib.hid t.at_typ; have A1 := Lib.hid (show (ansC a.st (.slice aa a.F.length ca) a.len a.ch a.cl)[1]? = some (.slice aa a.F.length ca) from rfl); generalize hac : ansC a.st (.slice aa a.F.length ca) a.len a.ch a.cl = ac at *; clear ha c1 c2 hal hac; by_cases hbig : 1000 < k.repo.length + k.tag.length + t.typ.length
  · go_enter Tryz.func9, Tryz.ntmps9; go_wp2_with (first | ((with_reducible refine gX 3 ?_); refine wpList_boxM rfl 25 (.tmp 0) rfl (k.cells) (by rfl) M0 ?_; intro b3 w1 M1 _ _; try simp only [Act.put, sqA, sqB, sqC]) | ((with_reducible refine gX 4 ?_); refine wpList_boxM rfl 27 (.tmp 1) rfl (t.cells) (by rfl) M1 ?_; intro b4 w2 M2 _ _; try simp only [Act.put, sqA, sqB, sqC]) | ((with_reducible refine gX 5 ?_); refine wpList_boxM rfl 30 (.tmp 2) rfl (ac) (by rfl) M2 ?_; intro b5 w3 M3 _ _; have d1 := M3.out.get 2 rfl 1 C1.out; have d2 := M3.out.get 2 rfl 2 C2.out; have d3 := M3.out.get 1 rfl 35 C35.out; try simp only [Act.put, sqA, sqB, sqC]) | fail); go_ret; exact ⟨_, rfl, fun h => by simp at h, M3.out.kp⟩
  by_cases h40 : 40 < a.F.length
  · go_enter Tryz.func9, Tryz.ntmps9; go_wp2_with (first | ((with_reducible refine gX 3 ?_); refine wpList_boxM rfl 25 (.tmp 0) rfl (k.cells) (by rfl) M0 ?_; intro b3 w1 M1 _ _; try simp only [Act.put, sqA, sqB, sqC]) | ((with_reducible refine gX 4 ?_); refine wpList_boxM rfl 27 (.tmp 1) rfl (t.cells) (by rfl) M1 ?_; intro b4 w2 M2 _ _; try simp only [Act.put, sqA, sqB, sqC]) | ((with_reducible refine gX 5 ?_); refine wpList_boxM rfl 30 (.tmp 2) rfl (ac) (by rfl) M2 ?_; intro b5 w3 M3 _ _; have d1 := M3.out.get 2 rfl 1 C1.out; have d2 := M3.out.get 2 rfl 2 C2.out; have d3 := M3.out.get 1 rfl 35 C35.out; have d4 := M3.out.get 0 rfl 1 A1.out; try simp only [Act.put, sqA, sqB, sqC]) | fail); go_ret; exact ⟨_, rfl, fun h => by simp at h, M3.out.kp⟩
  have HB := Lib.hid (show k.repo.length + k.tag.length + t.typ.length ≤ 1000 from by omega); have H40 := Lib.hid (show a.F.length ≤ 40 from by omega); go_enter Tryz.func9, Tryz.ntmps9
  go_wp2_with (first | ((with_reducible refine gX 3 ?_); refine wpList_boxM rfl 25 (.tmp 0) rfl (k.cells) (by rfl) M0 ?_; intro b3 w1 M1 _ _; try simp only [Act.put, sqA, sqB, sqC]) | ((with_reducible refine gX 4 ?_); refine wpList_boxM rfl 27 (.tmp 1) rfl (t.cells) (by rfl) M1 ?_; intro b4 w2 M2 _ _; try simp only [Act.put, sqA, sqB, sqC]) | ((with_reducible refine gX 5 ?_); refine wpList_boxM rfl 30 (.tmp 2) rfl (ac) (by rfl) M2 ?_; intro b5 w3 M3 _ _; have d1 := M3.out.get 2 rfl 1 C1.out; have d2 := M3.out.get 2 rfl 2 C2.out; have d3 := M3.out.get 1 rfl 35 C35.out; have d4 := M3.out.get 0 rfl 1 A1.out; try simp only [Act.put, sqA, sqB, sqC]) | fail); clear d1 d2 d3 d4 hz1 hz2 hz3 hbig h40
  go_loopg [7] a.F.length (fun g i wr => ∃ j : Nat, i = .int .i64 j ∧ j ≤ a.F.length ∧ g = a.F.length - j ∧ Hid (∀ f ∈ a.F.take j, f.name.length + f.value.length ≤ 1000) ∧ Hid (Keep [] w3 wr))
  case atStart => exact ⟨0, rfl, Nat.zero_le _, by omega, Lib.hid (by simp), Lib.hid (Keep.refl _ _)⟩
  case round =>
    obtain ⟨j, rfl, hj, hgj, hall, hkr⟩ := hrel; have MR := Lib.hid (M3.out.keep0 hkr.out); have d4 := MR.out.get 0 rfl 1 A1.out; by_cases hlt : j < a.F.length
    · obtain ⟨x, hx⟩ : ∃ x, a.F[j]? = some x := ⟨_, List.getElem?_eq_getElem hlt⟩
      obtain ⟨b1, o1, c1, e1, l1, m1, x1⟩ := HA.out.sl.cell hx; simp only [Value.slice.injEq] at e1; obtain ⟨rfl, _, rfl⟩ := e1; have a0 := x1 0 (by omega); have a1 := x1 1 (by omega); simp only [Fld.cells, List.getElem?_cons_zero, List.getElem?_cons_succ, Nat.add_zero] at a0 a1; have f0 := MR.out.kp.load a0; have f1 := MR.out.kp.load a1; have hz1 : (S x.name).size = x.name.length := rfl; have hz2 : (S x.value).size = x.value.length := rfl; have hn := HA.out.gf x (List.mem_of_getElem? hx); have hn1 := hn.1; have hn2 := hn.2; have HX := Lib.hid hx; clear hx x1 l1 m1 a0 a1 hn; by_cases hle : x.name.length + x.value.length ≤ 1000
      · have hnew := Lib.hid (show ∀ f ∈ a.F.take (j + 1), f.name.length + f.value.length ≤ 1000 from fun f hf => by
          rw [List.take_add_one, HX.out] at hf; rcases List.mem_append.1 hf with hf | hf
          · exact hall.out f hf
          · have : f = x := by simpa using hf
            rw [this]; exact hle)
        have hwr : IntKind.i64.wrap ((x.name.length : Int) + (x.value.length : Int)) = (x.name.length : Int) + (x.value.length : Int) := IntWalk.i64_in _ (by omega); have hdec : decide ((1000 : Int) < (x.name.length : Int) + (x.value.length : Int)) = false := by simp; omega
        go_wp2_with fail; go_quiet (fail); go_wp2_with fail
        go_roundg (a.F.length - (j + 1))
        case measure => omega
        case rel => exact ⟨j + 1, by go_num, by omega, rfl, hnew, Lib.hid (hkr.out.trans ((Keep.refl _ _).drewN _))⟩
      · have hwr : IntKind.i64.wrap ((x.name.length : Int) + (x.value.length : Int)) = (x.name.length : Int) + (x.value.length : Int) := IntWalk.i64_in _ (by omega); have hdec : decide ((1000 : Int) < (x.name.length : Int) + (x.value.length : Int)) = true := by simp; omega
        go_wp2_with fail; go_quiet (fail); go_wp2_with fail; go_ret; exact ⟨_, rfl, fun h => by simp at h, (MR.out.kp.trans ((Keep.refl _ _).drewN _))⟩
    · have hlen := Lib.hid (show a.F.take j = a.F from List.take_of_length_le (by omega)); go_wp2_with fail; go_ret; exact ⟨_, rfl, fun _ => ⟨HB.out, H40.out, fun f hf => hall.out f (by rw [hlen.out]; exact hf)⟩, MR.out.kp⟩
theorem siz_in (n : Int) : 0 ≤ sizM n ∧ sizM n ≤ 1048576 := by unfold sizM; split <;> omega
theorem judge_good {k : Ky} {t : Tk} {a : Ans} {x : Int} (hx : in64 x) (ht : t.typ.length ≤ 140737488351232) (hs : in64 t.size) (hl : (typM a.F).length ≤ 140737488351232) : goodRs (judgeR k t a x) := by
  have hz := siz_in a.len; unfold in64 at hx hs
  have g : ∀ (s : Int) (d : Dig) (l : List UInt8) (z y : Int), l.length ≤ 140737488351232 → (0 ≤ s ∧ s ≤ 600) → in64 z → in64 y → goodRs ⟨s, d, l, z, y⟩ := fun s d l z y h1 h2 h3 h4 => by
    unfold in64 at h3 h4; refine ⟨?_, ⟨?_, ?_⟩, ⟨h3.1, h3.2⟩, ⟨h4.1, h4.2⟩⟩
    · show l.length ≤ 9223372036854775807; omega
    · show _ ≤ s; omega
    · show s ≤ _; omega
  have i0 : in64 0 := by unfold in64; omega
  have n0 : ([] : List UInt8).length ≤ 140737488351232 := by decide
  have hsz : in64 (sizM a.len) := by unfold in64; omega
  unfold judgeR
  split
  · exact g _ _ _ _ _ n0 (by omega) i0 hx
  · split
    · exact g _ _ _ _ _ n0 (by omega) i0 i0
    · split
      · split
        · exact g _ _ _ _ _ n0 (by omega) i0 i0
        · unfold foundM
          split
          · exact g _ _ _ _ _ hl (by omega) hsz hx
          · split
            · exact g _ _ _ _ _ hl (by omega) hsz hx
            · exact g _ _ _ _ _ n0 (by omega) i0 i0
      · split
        · exact g _ _ _ _ _ ht (by omega) hs hx
        · exact g _ _ _ _ _ n0 (by omega) i0 i0
theorem typM_le {F : List Fld} (h : ∀ x ∈ F, x.value.length ≤ 1048576) : (typM F).length ≤ 140737488351232 := by
  have := getV_le (n := ctB) h; unfold typM
  split
  · omega
  · decide
set_option maxRecDepth 100000 in
set_option maxHeartbeats 16000000 in
theorem errandJudges_walk (k : Ky) (t : Tk) (pa : Ans × Value) (host : List UInt8) (x : Int) (w : World) (hm : ML w) (hk : goodKyIn k) (ht : goodTkIn t) (ha : AnOk w pa.1 pa.2) (hh : host.length ≤ 140737488351232) (hx : in64 x) :
    Calls Tryz.prog 3 #[.agg k.cells.toArray, .agg t.cells.toArray, .agg (ansC pa.1.st pa.2 pa.1.len pa.1.ch pa.1.cl).toArray, .string (S host), .int .i64 x] w fun e w' => e = .returned (.bool true) ∧ Keep [] w w' := by
  obtain ⟨a, va⟩ := pa; dsimp only at ha ⊢; have M0 := Lib.hid (Mem.nil w); have HAw := Lib.hid (fun w' (kk : Keep [] w w') => errand_awake w' (hm.keep kk (by simp))); have HGr := Lib.hid (fun w' (kk : Keep [] w w') => law24_great k t a va w' ⟨ha.sl.keep Fld.cells_length (by omega) ha.sl kk (by simp) (Nat.le_refl _), ha.gf, ha.st, ha.len⟩ hk.2.1 hk.2.2 ht.2.2.1); have HAS := Lib.hid (an_size a.st va a.len a.ch a.cl); have HM := Lib.hid hm; have HKI := Lib.hid hk; have HTI := Lib.hid ht; have HAI := Lib.hid ha; have HXI := Lib.hid hx; have hsz : (S host).size = host.length := rfl; have hh' : host.length ≤ 9223372036854775807 := by omega
  generalize hac : ansC a.st va a.len a.ch a.cl = ac at *; have HAC := Lib.hid hac; clear hm hk ht ha hx hac hh; go_enter Tryz.func3, Tryz.ntmps3
  go_wp2_with (first | ((with_reducible refine gX 5 ?_); refine wpList_boxM rfl 25 (.tmp 0) rfl (k.cells) (by rfl) M0 ?_; intro b5 w1 M1 _ _; try simp only [Act.put, sqA, sqB, sqC]) | ((with_reducible refine gX 6 ?_); refine wpList_boxM rfl 27 (.tmp 1) rfl (t.cells) (by rfl) M1 ?_; intro b6 w2 M2 _ _; try simp only [Act.put, sqA, sqB, sqC]) | ((with_reducible refine gX 7 ?_); refine wpList_boxM rfl 30 (.tmp 2) rfl (ac) (by rfl) M2 ?_; intro b7 w3 M3 _ _; try simp only [Act.put, sqA, sqB, sqC]) | fail); refine (HAw.out _ M3.out.kp).mono ?_; rintro e w4 ⟨rfl, k4⟩; have M4 := Lib.hid (M3.out.keep0 k4); clear k4 HAw
  go_wp2_with (first | ((with_reducible refine gL 21 5 ?_); refine wpList_loadM (by rfl) 25 (.tmp 5) rfl M4 2 rfl (by rfl) _ Tryz.underlying25 rfl (ky_size k) ?_; try simp only [Act.put, sqA, sqB, sqC]) | ((with_reducible refine gL 22 6 ?_); refine wpList_loadM (by rfl) 27 (.tmp 6) rfl M4 1 rfl (by rfl) _ Tryz.underlying27 rfl (tk_size t) ?_; try simp only [Act.put, sqA, sqB, sqC]) | ((with_reducible refine gL 23 7 ?_); refine wpList_loadM (by rfl) 30 (.tmp 7) rfl M4 0 rfl (by rfl) _ Tryz.underlying30 rfl HAS.out ?_; try simp only [Act.put, sqA, sqB, sqC]) | fail); refine (HGr.out _ M4.out.kp).mono ?_; rintro e w5 ⟨v, rfl, hv, k5⟩; have M5 := Lib.hid (M4.out.keep0 k5); have HV := Lib.hid hv; clear k5 HGr hv
  cases v with
  | true =>
    go_wp2_with fail; go_ret; exact ⟨rfl, M5.out.kp⟩
  | false =>
    by_cases hbig : 1000 < host.length
    · go_wp2_with fail; go_ret; exact ⟨rfl, M5.out.kp⟩
    have hsm := HV.out rfl; have hok : okKy k := ⟨by have := hsm.1; omega, by have := hsm.1; omega, HKI.out.1⟩
    have hin : ∀ w', Keep [] w w' → AnIn w' va a.F := fun w' kk => ⟨HAI.out.sl.keep Fld.cells_length (by omega) HAI.out.sl kk (by simp) (Nat.le_refl _), fun f hf => by have := hsm.2.2 f hf; omega, fun f hf => by have := hsm.2.2 f hf; omega⟩
    have HA1 := Lib.hid (fun w' (kk : Keep [] w w') => errand_Asked k host t w' (HM.out.keep kk (by simp)) hok (by omega)); have HA2 := Lib.hid (fun w' => ref24_Asked k host t w' hok (by omega)); have HJ1 := Lib.hid (fun w' (kk : Keep [] w w') => errand_Judge k t a va x w' (HM.out.keep kk (by simp)) (hin w' kk)); have HJ2 := Lib.hid (fun w' (kk : Keep [] w w') => ref24_Judge k t a va x w' (hin w' kk)); have HG1 := Lib.hid (fun w' => errand_Good k w' hok); have HG2 := Lib.hid (fun w' => ref24_Good k w' hok); have hgr : goodRs (judgeR k t a x) := judge_good HXI.out HTI.out.2.2.1 HTI.out.2.2.2.1 (typM_le (hin w (Keep.refl _ _)).vl); have heq := fun w' => eqRs (judgeR k t a x) (judgeR k t a x) hgr hgr w'
    rw [decide_eq_true rfl] at heq; unfold judgeO at HJ1 HJ2; unfold askedO at HA1 HA2; rw [HAC.out] at HJ1 HJ2; generalize judgeR k t a x = jr at *; generalize judgeV k a = jv at *; generalize askedS k host t = as' at *; generalize askedE k host t = ae at *; generalize goodKyM k = gk at *; clear hsm hok hin hgr HV
    go_wp2_with (first | ((with_reducible refine gL 31 5 ?_); refine wpList_loadM (by rfl) 25 (.tmp 5) rfl M5 2 rfl (by rfl) _ Tryz.underlying25 rfl (ky_size k) ?_; try simp only [Act.put, sqA, sqB, sqC]) | ((with_reducible refine gL 33 6 ?_); refine wpList_loadM (by rfl) 27 (.tmp 6) rfl M5 1 rfl (by rfl) _ Tryz.underlying27 rfl (tk_size t) ?_; try simp only [Act.put, sqA, sqB, sqC]) | fail); refine (HA1.out _ M5.out.kp).mono ?_; rintro e w6 ⟨rfl, k6⟩; have M6 := Lib.hid (M5.out.keep0 k6); clear k6
    go_wp2_with (first | ((with_reducible refine gL 38 5 ?_); refine wpList_loadM (by rfl) 25 (.tmp 5) rfl M6 2 rfl (by rfl) _ Tryz.underlying25 rfl (ky_size k) ?_; try simp only [Act.put, sqA, sqB, sqC]) | ((with_reducible refine gL 40 6 ?_); refine wpList_loadM (by rfl) 27 (.tmp 6) rfl M6 1 rfl (by rfl) _ Tryz.underlying27 rfl (tk_size t) ?_; try simp only [Act.put, sqA, sqB, sqC]) | fail); refine (HA2.out _).mono ?_; rintro e w7 ⟨rfl, k7⟩; have M7 := Lib.hid (M6.out.keep0 k7); clear k7
    go_wp2_with (first | ((with_reducible refine gL 45 5 ?_); refine wpList_loadM (by rfl) 25 (.tmp 5) rfl M7 2 rfl (by rfl) _ Tryz.underlying25 rfl (ky_size k) ?_; try simp only [Act.put, sqA, sqB, sqC]) | ((with_reducible refine gL 46 6 ?_); refine wpList_loadM (by rfl) 27 (.tmp 6) rfl M7 1 rfl (by rfl) _ Tryz.underlying27 rfl (tk_size t) ?_; try simp only [Act.put, sqA, sqB, sqC]) | ((with_reducible refine gL 47 7 ?_); refine wpList_loadM (by rfl) 30 (.tmp 7) rfl M7 0 rfl (by rfl) _ Tryz.underlying30 rfl HAS.out ?_; try simp only [Act.put, sqA, sqB, sqC]) | fail); refine (HJ1.out _ M7.out.kp).mono ?_; rintro e w8 ⟨rfl, k8⟩; have M8 := Lib.hid (M7.out.keep0 k8); clear k8
    go_wp2_with (first | ((with_reducible refine gA 16 ?_); refine wpList_allocM rfl 39 rfl (rs0.cells) (Lib.hid rs_zero) M8 ?_; intro b16 w9 M9 _ _; try simp only [Act.put, sqA, sqB, sqC]) | ((with_reducible refine gS 16 51 ?_); refine wpList_storeM rfl 39 (.tmp 16) (.tmp 51) rfl M9 0 rfl (by rfl) (jr.cells) (by rfl) (rs_size _) (by rw [Rs.len, Rs.len]) (Rs.one _) ?_; intro w10 M10 _; try simp only [Act.put]) | ((with_reducible refine gL 53 5 ?_); refine wpList_loadM (by rfl) 25 (.tmp 5) rfl M10 3 rfl (by rfl) _ Tryz.underlying25 rfl (ky_size k) ?_; try simp only [Act.put, sqA, sqB, sqC]) | ((with_reducible refine gL 54 6 ?_); refine wpList_loadM (by rfl) 27 (.tmp 6) rfl M10 2 rfl (by rfl) _ Tryz.underlying27 rfl (tk_size t) ?_; try simp only [Act.put, sqA, sqB, sqC]) | ((with_reducible refine gL 55 7 ?_); refine wpList_loadM (by rfl) 30 (.tmp 7) rfl M10 1 rfl (by rfl) _ Tryz.underlying30 rfl HAS.out ?_; try simp only [Act.put, sqA, sqB, sqC]) | fail); refine (HJ2.out _ M10.out.kp).mono ?_; rintro e w11 ⟨rfl, k11⟩; have M11 := Lib.hid (M10.out.keep0 k11); clear k11
    go_upto_region 9 with (first | ((with_reducible refine gA 18 ?_); refine wpList_allocM rfl 39 rfl (rs0.cells) (Lib.hid rs_zero) M11 ?_; intro b18 w12 M12 _ _; try simp only [Act.put, sqA, sqB, sqC]) | ((with_reducible refine gS 18 59 ?_); refine wpList_storeM rfl 39 (.tmp 18) (.tmp 59) rfl M12 0 rfl (by rfl) (jr.cells) (by rfl) (rs_size _) (by rw [Rs.len, Rs.len]) (Rs.one _) ?_; intro w13 M13 _; try simp only [Act.put]) | fail)
    have M13' : Hid (Mem w w13 [(b18, 39, jr.cells), (b16, 39, jr.cells), (b7, 30, ac), (b6, 27, t.cells), (b5, 25, k.cells)]) := M13; refine wp_region_noPanic ?_; refine wp_region_held_drew (S := fun w' => Mem w w' [(b18, 39, jr.cells), (b16, 39, jr.cells), (b7, 30, ac), (b6, 27, t.cells), (b5, 25, k.cells)]) (by kernel_rfl) ((Lib.hid (M13'.out.keep0 ((Keep.refl _ _).drew))).out) (fun hHeld => ?_); have M13'd := Lib.hid (M13'.out.keep0 ((Keep.refl _ _).drew)); refine gU 0 (oi := ⟨some 60, .load _ (.tmp 5), _, _, _, none⟩) rfl (yieldsIf_load_mid (by rfl) 25 (.tmp 5) rfl _ 0 (by rfl) (k.cells) _ (fun w' hSw => ((hSw).blk 4 (by rfl)).range') Tryz.underlying25 rfl (ky_size k)) (by assumption) ?_; (try simp only [Act.put, sqA, sqC, sqB]); refine gU 2 (oi := ⟨some 62, .load _ (.tmp 5), _, _, _, none⟩) rfl (yieldsIf_load_mid (by rfl) 25 (.tmp 5) rfl _ 0 (by rfl) (k.cells) _ (fun w' hSw => ((hSw).blk 4 (by rfl)).range') Tryz.underlying25 rfl (ky_size k)) (by assumption) ?_; (try simp only [Act.put, sqA, sqC, sqB]); refine gR 1 rfl (fun K hK => ?_); go_simp; refine (HG1.out _).mono ?_; rintro e wr1 ⟨rfl, kR⟩; have MR1 := Lib.hid (M13'd.out.keep0 kR); clear kR; (try go_simp); refine hK.out _ _ (MR1.out) (fun hHeld => ?_); clear hK K; (try simp only [Act.put, sqA, sqC, sqB]); refine gR 3 rfl (fun K hK => ?_); go_simp; refine (HG2.out _).mono ?_; rintro e wr2 ⟨rfl, kR⟩; have MR2 := Lib.hid (MR1.out.keep0 kR); clear kR; (try go_simp); refine hK.out _ _ (MR2.out) (fun hHeld => ?_); clear hK K; (try simp only [Act.put, sqA, sqC, sqB]); refine gU 4 (oi := ⟨some 64, .binOp _ _ _ _ _, _, _, _, none⟩) (v := ?_) rfl (Or.inl ⟨by rfl, ?_⟩) (by assumption) ?_; rotate_left
    · (intro w' hSw; go_simp) <;> (with_reducible rfl)
    (try simp only [Act.put, sqA, sqC, sqB]); refine gU 5 (oi := ⟨some 65, .move (.tmp 64), _, _, _, none⟩) (v := ?_) rfl (Or.inl ⟨by rfl, ?_⟩) (by assumption) ?_; rotate_left
    · (intro w' hSw; go_simp) <;> (with_reducible rfl)
    (try simp only [Act.put, sqA, sqC, sqB]); refine gU 6 (oi := ⟨some 66, .move (.tmp 11), _, _, _, some (5, true)⟩) (v := ?_) rfl (Or.inl ⟨by rfl, ?_⟩) (by assumption) ?_; rotate_left
    · (intro w' hSw; go_simp) <;> (with_reducible rfl)
    (try simp only [Act.put, sqA, sqC, sqB]); refine gU 7 (oi := ⟨some 67, .move (.tmp 13), _, _, _, some (5, true)⟩) (v := ?_) rfl (Or.inl ⟨by rfl, ?_⟩) (by assumption) ?_; rotate_left
    · (intro w' hSw; go_simp) <;> (with_reducible rfl)
    (try simp only [Act.put, sqA, sqC, sqB]); refine gU 8 (oi := ⟨some 68, .binOp _ _ _ _ _, _, _, _, some (5, true)⟩) (v := ?_) rfl (Or.inl ⟨by rfl, ?_⟩) (by assumption) ?_; rotate_left
    · (intro w' hSw; go_simp) <;> (with_reducible rfl)
    (try simp only [Act.put, sqA, sqC, sqB]); refine gU 9 (oi := ⟨some 69, .pick _ _ _, _, _, _, none⟩) (v := ?_) rfl (Or.inl ⟨by rfl, ?_⟩) (by assumption) ?_; rotate_left
    · (intro w' hSw; go_simp) <;> (with_reducible rfl)
    (try simp only [Act.put, sqA, sqC, sqB]); refine gU 10 (oi := ⟨some 70, .move (.tmp 69), _, _, _, none⟩) (v := ?_) rfl (Or.inl ⟨by rfl, ?_⟩) (by assumption) ?_; rotate_left
    · (intro w' hSw; go_simp) <;> (with_reducible rfl)
    (try simp only [Act.put, sqA, sqC, sqB]); refine gU 11 (oi := ⟨some 71, .move (.tmp 12), _, _, _, some (10, true)⟩) (v := ?_) rfl (Or.inl ⟨by rfl, ?_⟩) (by assumption) ?_; rotate_left
    · (intro w' hSw; go_simp) <;> (with_reducible rfl)
    (try simp only [Act.put, sqA, sqC, sqB]); refine gU 12 (oi := ⟨some 72, .move (.tmp 14), _, _, _, some (10, true)⟩) (v := ?_) rfl (Or.inl ⟨by rfl, ?_⟩) (by assumption) ?_; rotate_left
    · (intro w' hSw; go_simp) <;> (with_reducible rfl)
    (try simp only [Act.put, sqA, sqC, sqB]); refine gU 13 (oi := ⟨some 73, .binOp _ _ _ _ _, _, _, _, some (10, true)⟩) (v := ?_) rfl (Or.inl ⟨by rfl, ?_⟩) (by assumption) ?_; rotate_left
    · (intro w' hSw; go_simp) <;> (with_reducible rfl)
    (try simp only [Act.put, sqA, sqC, sqB]); refine gU 14 (oi := ⟨some 74, .pick _ _ _, _, _, _, none⟩) (v := ?_) rfl (Or.inl ⟨by rfl, ?_⟩) (by assumption) ?_; rotate_left
    · (intro w' hSw; go_simp) <;> (with_reducible rfl)
    (try simp only [Act.put, sqA, sqC, sqB]); refine gU 15 (oi := ⟨some 75, .move (.tmp 74), _, _, _, none⟩) (v := ?_) rfl (Or.inl ⟨by rfl, ?_⟩) (by assumption) ?_; rotate_left
    · (intro w' hSw; go_simp) <;> (with_reducible rfl)
    (try simp only [Act.put, sqA, sqC, sqB]); refine gU 16 (oi := ⟨some 76, .move (.tmp 15), _, _, _, some (15, true)⟩) (v := ?_) rfl (Or.inl ⟨by rfl, ?_⟩) (by assumption) ?_; rotate_left
    · (intro w' hSw; go_simp) <;> (with_reducible rfl)
    (try simp only [Act.put, sqA, sqC, sqB]); refine gU 17 (oi := ⟨some 77, .move (.tmp 17), _, _, _, some (15, true)⟩) (v := ?_) rfl (Or.inl ⟨by rfl, ?_⟩) (by assumption) ?_; rotate_left
    · (intro w' hSw; go_simp) <;> (with_reducible rfl)
    (try simp only [Act.put, sqA, sqC, sqB]); refine gU 18 (oi := ⟨some 78, .binOp _ _ _ _ _, _, _, _, some (15, true)⟩) (v := ?_) rfl (Or.inl ⟨by rfl, ?_⟩) (by assumption) ?_; rotate_left
    · (intro w' hSw; go_simp) <;> (with_reducible rfl)
    (try simp only [Act.put, sqA, sqC, sqB]); refine gU 19 (oi := ⟨some 79, .pick _ _ _, _, _, _, none⟩) (v := ?_) rfl (Or.inl ⟨by rfl, ?_⟩) (by assumption) ?_; rotate_left
    · (intro w' hSw; go_simp) <;> (with_reducible rfl)
    (try simp only [Act.put, sqA, sqC, sqB]); refine gU 20 (oi := ⟨some 80, .move (.tmp 79), _, _, _, none⟩) (v := ?_) rfl (Or.inl ⟨by rfl, ?_⟩) (by assumption) ?_; rotate_left
    · (intro w' hSw; go_simp) <;> (with_reducible rfl)
    (try simp only [Act.put, sqA, sqC, sqB]); refine gU 21 (oi := ⟨some 81, .load _ (.tmp 16), _, _, _, some (20, true)⟩) rfl (yieldsIf_load_mid (by rfl) 39 (.tmp 16) rfl _ 0 (by rfl) (jr.cells) _ (fun w' hSw => ((hSw).blk 1 (by rfl)).range') Tryz.underlying39 rfl (rs_size jr)) (by assumption) ?_; (try simp only [Act.put, sqA, sqC, sqB]); refine gU 22 (oi := ⟨some 82, .load _ (.tmp 18), _, _, _, some (20, true)⟩) rfl (yieldsIf_load_mid (by rfl) 39 (.tmp 18) rfl _ 0 (by rfl) (jr.cells) _ (fun w' hSw => ((hSw).blk 0 (by rfl)).range') Tryz.underlying39 rfl (rs_size jr)) (by assumption) ?_; (try simp only [Act.put, sqA, sqC, sqB]); refine gU 23 (oi := ⟨some 83, .binOp _ _ _ _ _, _, _, _, some (20, true)⟩) (v := ?_) rfl (Or.inl ⟨by rfl, ?_⟩) (by assumption) ?_; rotate_left
    · (intro w' hSw; go_simp) <;> (with_reducible rfl)
    (try simp only [Act.put, sqA, sqC, sqB]); refine gU 24 (oi := ⟨some 84, .pick _ _ _, _, _, _, none⟩) (v := ?_) rfl (Or.inl ⟨by rfl, ?_⟩) (by assumption) ?_; rotate_left
    · (intro w' hSw; go_simp) <;> (with_reducible rfl)
    (try simp only [Act.put, sqA, sqC, sqB]); refine gU 25 (oi := ⟨some 10, .assign (.tmp 84), _, _, _, none⟩) (v := ?_) rfl (Or.inl ⟨by rfl, ?_⟩) (by assumption) ?_; rotate_left
    · (intro w' hSw; go_simp) <;> (with_reducible rfl)
    (try simp only [Act.put, sqA, sqC, sqB]); refine wpAnyH_done (by kernel_rfl) ?_ _; refine NoPanic.normal ?_; go_wp2_with fail; go_ret; exact ⟨rfl, MR2.out.kp⟩
end Go.Proofs.YtlhnjkekjbbhcaaGreatDoor
