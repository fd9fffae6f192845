/- Parts of the proof of ErrandTries, in order. No conditions but those that each theorem states. -/
import Derived.Test.YtlhnjkekjbbhcaaGreatDoorYErrandTries0
import Derived.Lib.SlBytesConst
import Derived.Lib.LaidTab
import Derived.Lib.ItoaNum
import Derived.Lib.ItoaLen
import Derived.Sort.Grow
import Derived.DeepKeys4
import Derived.Deep.MidRow
import Derived.Test.YtlhnjkekjbbhcaaGreatDoorYErrandTries20
import Derived.Test.YtlhnjkekjbbhcaaGreatDoorYErrandTries41
set_option linter.unusedSimpArgs false
set_option linter.unusedVariables false
namespace Go.Proofs.YtlhnjkekjbbhcaaGreatDoor
open Go.RowKit Go.Shelf
def cfgM (re : Int) (tm bo : Nat) : Cf := ⟨[117, 112], 0, 0, 0, 0, re, 0, 0, 0, 0, tm, bo, 0⟩
theorem bd_cfg (re : Int) (tm bo : Nat) : Tryz.prog.built 48 [(0, .string ⟨#[117, 112]⟩), (5, .int .i64 re), (10, .float .f64 tm), (11, .float .f64 bo)] = some (cfgM re tm bo).cells.toArray := by kernel_rfl
theorem cfg_bo (re : Int) (tm bo v : Nat) : (cfgM re tm bo).cells.set 11 (.float .f64 v) = (cfgM re tm v).cells := rfl
def tmM (m : Nat) : Nat := floatOfInt .f64 (1 + (m : Int))
theorem tm_good : ∀ m : Fin 50, goodSp (tmM m) = true := by decide +kernel
def boM (bo : Nat) : Nat := if goodSp bo then bo else 4607182418800017408
theorem bo_good (bo : Nat) : goodSp (boM bo) = true := by
  unfold boM
  split
  · assumption
  · decide +kernel
set_option maxRecDepth 100000 in
set_option maxHeartbeats 1600000 in
theorem law24_config (x y z : Int) (bo r m : Nat) (w : World) (hr : (IntKind.u64.wrap x).tmod 6 = (r : Int)) (hr6 : r < 6) (hm : (IntKind.u64.wrap y).tmod 50 = (m : Int)) (hm5 : m < 50) :
    Calls Tryz.prog 16 #[.agg #[.int .i64 x, .int .i64 y, .int .i64 z], .float .f64 bo] w fun e w' => e = .returned (.agg (cfgM r (tmM m) (boM bo)).cells.toArray) ∧ Keep [] w w' := by
  have M0 : Hid (MemK w [] w w []) := Lib.hid (MemK.of (Mem.nil w) []); have HB1 := Lib.hid (bd_cfg r (tmM m) bo); have HG := Lib.hid (term_Good bo); have wr : IntKind.i64.wrap (r : Int) = r := IntWalk.i64_in _ (by omega); have wm : IntKind.u64.wrap (1 + (m : Int)) = 1 + (m : Int) := IntWalk.u64_in _ (by omega); have htm : floatOfInt .f64 (1 + (m : Int)) = tmM m := rfl; have hbo : boM bo = if goodSp bo then bo else 4607182418800017408 := rfl
  have HBO := Lib.hid hbo; clear hbo; go_enter Tryz.func16, Tryz.ntmps16
  go_wp2_with (first | ((with_reducible refine gX 2 ?_); refine wpList_boxK rfl 44 (.tmp 0) rfl ([.int .i64 x, .int .i64 y, .int .i64 z]) (by rfl) M0 ?_; intro b2 w1 M1 hnewb2; try simp only [Act.put, sqA, sqB, sqC]) | ((with_reducible refine gA 4 ?_); refine wpList_allocK rfl 48 rfl (cf0.cells) (Lib.hid cf_zero) M1 ?_; intro c4 w2 M2 hnewc4; have c0 := M2.out.get 1 rfl 0 rfl; have c1 := M2.out.get 1 rfl 1 rfl; try simp only [Act.put, sqA, sqB, sqC]) | ((with_reducible refine gB 18 ?_); refine wpList_buildM (by rfl) 48 _ rfl ([(0, .string ⟨#[117, 112]⟩), (5, .int .i64 r), (10, .float .f64 (tmM m)), (11, .float .f64 bo)]) (by simp [Act.eval]) ((cfgM r (tmM m) bo).cells) HB1 ?_; try simp only [Act.put, sqA, sqB, sqC]) | ((with_reducible refine gA 5 ?_); refine wpList_allocK rfl 48 rfl (cf0.cells) (Lib.hid cf_zero) M2 ?_; intro c5 w3 M3 hnewc5; try simp only [Act.put, sqA, sqB, sqC]) | ((with_reducible refine gS 5 18 ?_); refine wpList_storeK rfl 48 (.tmp 5) (.tmp 18) rfl M3 0 rfl (by rfl) ((cfgM r (tmM m) bo).cells) (by rfl) (cf_size _) (by rw [Cf.len, Cf.len]) (Cf.one _) (fun hlt => absurd hnewc5.out (by omega)) ?_; intro w4 M4; try simp only [Act.put, sqA, sqB, sqC]) | fail); refine (HG.out _).mono ?_; rintro e w5 ⟨rfl, rfl⟩
  cases hg : goodSp bo with
  | true =>
    go_wp2_with (first | ((with_reducible refine gL 23 5 ?_); refine wpList_loadK (by rfl) 48 (.tmp 5) rfl M4 0 rfl (by rfl) _ Tryz.underlying48 rfl (cf_size _) ?_; try simp only [Act.put, sqA, sqB, sqC]) | ((with_reducible refine gS 4 23 ?_); refine wpList_storeK rfl 48 (.tmp 4) (.tmp 23) rfl M4 1 rfl (by rfl) ((cfgM r (tmM m) bo).cells) (by rfl) (cf_size _) (by rw [Cf.len, Cf.len]) (Cf.one _) (fun hlt => absurd hnewc4.out (by omega)) ?_; intro w6 M6; try simp only [Act.put, sqA, sqB, sqC]) | fail); have hload := cf_end M6.out.1 1 rfl; refine bodyPost_ret (v := .agg (cfgM r (tmM m) bo).cells.toArray) (by simp [Act.put, results, Tryz.results16, asAddr, Result.andThen, hload]) rfl ⟨by rw [HBO.out, hg]; rfl, M6.out.2⟩
  | false =>
    go_wp2_with (first | ((with_reducible refine gT 22 ?_); refine wpList_store1K rfl 45 (.tmp 22) _ rfl M4 0 rfl 11 (by rfl) (.float .f64 4607182418800017408) (by rfl) rfl rfl (by kernel_rfl) (by rw [Cf.len]; omega) (fun hlt => absurd hnewc5.out (by omega)) ?_; intro w6 M6; have hR := M6.out; simp only [sqC, sqB, cfg_bo] at hR; clear M6; have M6 := Lib.hid hR; clear hR; try simp only [Act.put, sqA, sqB, sqC]) | ((with_reducible refine gL 23 5 ?_); refine wpList_loadK (by rfl) 48 (.tmp 5) rfl M6 0 rfl (by rfl) _ Tryz.underlying48 rfl (cf_size _) ?_; try simp only [Act.put, sqA, sqB, sqC]) | ((with_reducible refine gS 4 23 ?_); refine wpList_storeK rfl 48 (.tmp 4) (.tmp 23) rfl M6 1 rfl (by rfl) ((cfgM r (tmM m) 4607182418800017408).cells) (by rfl) (cf_size _) (by rw [Cf.len, Cf.len]) (Cf.one _) (fun hlt => absurd hnewc4.out (by omega)) ?_; intro w7 M7; try simp only [Act.put, sqA, sqB, sqC]) | fail); have hload := cf_end M7.out.1 1 rfl; refine bodyPost_ret (v := .agg (cfgM r (tmM m) 4607182418800017408).cells.toArray) (by simp [Act.put, results, Tryz.results16, asAddr, Result.andThen, hload]) rfl ⟨by rw [HBO.out, hg]; rfl, M7.out.2⟩
structure Sp where
  kind : Int
  s : List UInt8
  n : Int
  deriving Inhabited
def Sp.cells (x : Sp) : List Value := [.int .i64 x.kind, .string (S x.s), .int .i64 x.n]
theorem Sp.len (x : Sp) : x.cells.length = 3 := rfl
theorem Sp.one (x : Sp) : ∀ v ∈ x.cells, v.oneCell' = true := by
  intro v hv; simp only [Sp.cells, List.mem_cons, List.not_mem_nil, or_false] at hv; rcases hv with rfl | rfl | rfl <;> rfl
theorem sp_size (x : Sp) : (Tryz.prog.info? 54).map (·.size) = some x.cells.length := by kernel_rfl
theorem sp_zero : ZeroIs Tryz.prog 54 (⟨0, [], 0⟩ : Sp).cells := fun w => by simp [go_sem]; rfl
def Sp.good (x : Sp) : Prop := in64 x.kind ∧ x.s.length ≤ 140737488351232 ∧ in64 x.n
theorem sp_cells : Tryz.prog.cellsOf 54 = 3 := by kernel_rfl
open Go.ChangeShapes Go.WideShapes Go.ChangeAt in
theorem read_sp {H : Type} {enc : TypeId × Value → H} {w : World} {base : Nat} {spare : Nat → Bool} {held : Bool} (m : Nat) (cs : List Value) (x : DataW H × List MemPlace) (h : DataW.trod enc Tryz.prog w base spare held m 54 cs = some x) (hfit : Fits Tryz.prog 54 x.1) : ∃ a : Sp, cs = a.cells ∧ a.good := by
  obtain ⟨hl, n, hf⟩ := trod_fieldsW Tryz.underlying54 h hfit; rw [sp_cells] at hl; obtain ⟨y0, h0⟩ := hf 0 _ rfl; obtain ⟨y1, h1⟩ := hf 1 _ rfl; obtain ⟨y2, h2⟩ := hf 2 _ rfl; obtain ⟨v0, c0, w0⟩ := field_int Tryz.underlying3 int_cells h0.1; obtain ⟨v1, c1, w1⟩ := field_stringW Tryz.underlying9 str_cells h1; obtain ⟨v2, c2, w2⟩ := field_int Tryz.underlying3 int_cells h2.1; refine ⟨⟨v0, v1.data.toList, v2⟩, list_eq_of hl rfl ?_, in64_of w0, w1, in64_of w2⟩; intro i hi; simp only [Sp.cells, S_of]
  match i, hi with
  | 0, _ => exact c0
  | 1, _ => exact c1
  | 2, _ => exact c2
def smallIn (k : Ky) (t : Tk) (a : Ans) : Prop := k.repo.length + k.tag.length + t.typ.length ≤ 1000 ∧ a.F.length ≤ 40 ∧ ∀ f ∈ a.F, f.name.length + f.value.length ≤ 1000
def GreatOut (w : World) (k : Ky) (t : Tk) (a : Ans) (e : Ending) (w' : World) : Prop := ∃ v : Bool, e = .returned (.bool v) ∧ (v = false → smallIn k t a) ∧ Keep [] w w'
set_option maxRecDepth 100000 in
set_option maxHeartbeats 8000000 in
theorem law24_great (k : Ky) (t : Tk) (a : Ans) (va : Value) (w : World) (ha : AnOk w a va) (hk1 : k.repo.length ≤ 140737488351232) (hk2 : k.tag.length ≤ 140737488351232) (ht : t.typ.length ≤ 140737488351232) :
    Calls Tryz.prog 9 #[.agg k.cells.toArray, .agg t.cells.toArray, .agg (ansC a.st va a.len a.ch a.cl).toArray] w (GreatOut w k t a) := by
  have M0 := Lib.hid (Mem.nil w); have hz1 : (S k.repo).size = k.repo.length := rfl; have hz2 : (S k.tag).size = k.tag.length := rfl; have hz3 : (S t.typ).size = t.typ.length := rfl; obtain ⟨aa, ca, rfl, hal⟩ := ha.sl.shape; have HA := Lib.hid ha; have hal' : a.F.length ≤ 9223372036854775807 := hal; have c1 : k.cells[1]? = some (.string (S k.repo)) := rfl; have c2 : k.cells[2]? = some (.string (S k.tag)) := rfl; have C1 := Lib.hid c1; have C2 := Lib.hid c2; have C35 := Lib.hid t.at_typ; have A1 := Lib.hid (show (ansC a.st (.slice aa a.F.length ca) a.len a.ch a.cl)[1]? = some (.slice aa a.F.length ca) from rfl); generalize hac : ansC a.st (.slice aa a.F.length ca) a.len a.ch a.cl = ac at *; clear ha c1 c2 hal hac; by_cases hbig : 1000 < k.repo.length + k.tag.length + t.typ.length
  · go_enter Tryz.func9, Tryz.ntmps9; go_wp2_with (first | ((with_reducible refine gX 3 ?_); refine wpList_boxM rfl 25 (.tmp 0) rfl (k.cells) (by rfl) M0 ?_; intro b3 w1 M1 _ _; try simp only [Act.put, sqA, sqB, sqC]) | ((with_reducible refine gX 4 ?_); refine wpList_boxM rfl 27 (.tmp 1) rfl (t.cells) (by rfl) M1 ?_; intro b4 w2 M2 _ _; try simp only [Act.put, sqA, sqB, sqC]) | ((with_reducible refine gX 5 ?_); refine wpList_boxM rfl 30 (.tmp 2) rfl (ac) (by rfl) M2 ?_; intro b5 w3 M3 _ _; have d1 := M3.out.get 2 rfl 1 C1.out; have d2 := M3.out.get 2 rfl 2 C2.out; have d3 := M3.out.get 1 rfl 35 C35.out; try simp only [Act.put, sqA, sqB, sqC]) | fail); go_ret; exact ⟨_, rfl, fun h => by simp at h, M3.out.kp⟩
  by_cases h40 : 40 < a.F.length
  · go_enter Tryz.func9, Tryz.ntmps9; go_wp2_with (first | ((with_reducible refine gX 3 ?_); refine wpList_boxM rfl 25 (.tmp 0) rfl (k.cells) (by rfl) M0 ?_; intro b3 w1 M1 _ _; try simp only [Act.put, sqA, sqB, sqC]) | ((with_reducible refine gX 4 ?_); refine wpList_boxM rfl 27 (.tmp 1) rfl (t.cells) (by rfl) M1 ?_; intro b4 w2 M2 _ _; try simp only [Act.put, sqA, sqB, sqC]) | ((with_reducible refine gX 5 ?_); refine wpList_boxM rfl 30 (.tmp 2) rfl (ac) (by rfl) M2 ?_; intro b5 w3 M3 _ _; have d1 := M3.out.get 2 rfl 1 C1.out; have d2 := M3.out.get 2 rfl 2 C2.out; have d3 := M3.out.get 1 rfl 35 C35.out; have d4 := M3.out.get 0 rfl 1 A1.out; try simp only [Act.put, sqA, sqB, sqC]) | fail); go_ret; exact ⟨_, rfl, fun h => by simp at h, M3.out.kp⟩
  have HB := Lib.hid (show k.repo.length + k.tag.length + t.typ.length ≤ 1000 from by omega); have H40 := Lib.hid (show a.F.length ≤ 40 from by omega); go_enter Tryz.func9, Tryz.ntmps9
  go_wp2_with (first | ((with_reducible refine gX 3 ?_); refine wpList_boxM rfl 25 (.tmp 0) rfl (k.cells) (by rfl) M0 ?_; intro b3 w1 M1 _ _; try simp only [Act.put, sqA, sqB, sqC]) | ((with_reducible refine gX 4 ?_); refine wpList_boxM rfl 27 (.tmp 1) rfl (t.cells) (by rfl) M1 ?_; intro b4 w2 M2 _ _; try simp only [Act.put, sqA, sqB, sqC]) | ((with_reducible refine gX 5 ?_); refine wpList_boxM rfl 30 (.tmp 2) rfl (ac) (by rfl) M2 ?_; intro b5 w3 M3 _ _; have d1 := M3.out.get 2 rfl 1 C1.out; have d2 := M3.out.get 2 rfl 2 C2.out; have d3 := M3.out.get 1 rfl 35 C35.out; have d4 := M3.out.get 0 rfl 1 A1.out; try simp only [Act.put, sqA, sqB, sqC]) | fail); clear d1 d2 d3 d4 hz1 hz2 hz3 hbig h40
  go_loopg [7] a.F.length (fun g i wr => ∃ j : Nat, i = .int .i64 j ∧ j ≤ a.F.length ∧ g = a.F.length - j ∧ Hid (∀ f ∈ a.F.take j, f.name.length + f.value.length ≤ 1000) ∧ Hid (Keep [] w3 wr))
  case atStart => exact ⟨0, rfl, Nat.zero_le _, by omega, Lib.hid (by simp), Lib.hid (Keep.refl _ _)⟩
  case round =>
    obtain ⟨j, rfl, hj, hgj, hall, hkr⟩ := hrel; have MR := Lib.hid (M3.out.keep0 hkr.out); have d4 := MR.out.get 0 rfl 1 A1.out; by_cases hlt : j < a.F.length
    · obtain ⟨x, hx⟩ : ∃ x, a.F[j]? = some x := ⟨_, List.getElem?_eq_getElem hlt⟩
      obtain ⟨b1, o1, c1, e1, l1, m1, x1⟩ := HA.out.sl.cell hx; simp only [Value.slice.injEq] at e1; obtain ⟨rfl, _, rfl⟩ := e1; have a0 := x1 0 (by omega); have a1 := x1 1 (by omega); simp only [Fld.cells, List.getElem?_cons_zero, List.getElem?_cons_succ, Nat.add_zero] at a0 a1; have f0 := MR.out.kp.load a0; have f1 := MR.out.kp.load a1; have hz1 : (S x.name).size = x.name.length := rfl; have hz2 : (S x.value).size = x.value.length := rfl; have hn := HA.out.gf x (List.mem_of_getElem? hx); have hn1 := hn.1; have hn2 := hn.2; have HX := Lib.hid hx; clear hx x1 l1 m1 a0 a1 hn; by_cases hle : x.name.length + x.value.length ≤ 1000
      · have hnew := Lib.hid (show ∀ f ∈ a.F.take (j + 1), f.name.length + f.value.length ≤ 1000 from fun f hf => by
          rw [List.take_add_one, HX.out] at hf; rcases List.mem_append.1 hf with hf | hf
          · exact hall.out f hf
          · have : f = x := by simpa using hf
            rw [this]; exact hle)
        have hwr : IntKind.i64.wrap ((x.name.length : Int) + (x.value.length : Int)) = (x.name.length : Int) + (x.value.length : Int) := IntWalk.i64_in _ (by omega); have hdec : decide ((1000 : Int) < (x.name.length : Int) + (x.value.length : Int)) = false := by simp; omega
        go_wp2_with fail; go_quiet (fail); go_wp2_with fail
        go_roundg (a.F.length - (j + 1))
        case measure => omega
        case rel => exact ⟨j + 1, by go_num, by omega, rfl, hnew, Lib.hid (hkr.out.trans ((Keep.refl _ _).drewN _))⟩
      · have hwr : IntKind.i64.wrap ((x.name.length : Int) + (x.value.length : Int)) = (x.name.length : Int) + (x.value.length : Int) := IntWalk.i64_in _ (by omega); have hdec : decide ((1000 : Int) < (x.name.length : Int) + (x.value.length : Int)) = true := by simp; omega
        go_wp2_with fail; go_quiet (fail); go_wp2_with fail; go_ret; exact ⟨_, rfl, fun h => by simp at h, (MR.out.kp.trans ((Keep.refl _ _).drewN _))⟩
    · have hlen := Lib.hid (show a.F.take j = a.F from List.take_of_length_le (by omega)); go_wp2_with fail; go_ret; exact ⟨_, rfl, fun _ => ⟨HB.out, H40.out, fun f hf => hall.out f (by rw [hlen.out]; exact hf)⟩, MR.out.kp⟩
theorem Own.glt {α : Type} {en : α → List Value} {n B : Nat} {T : TypeId} {w : World} {v : Value} {L : List α} {g : Nat} (h : Own en n B T w v L) (hg : v.ownBlock = some g) : g < w.heap.size := by
  rcases h.2 with ⟨rfl, _⟩ | ⟨g', cap, cur, rfl, _, hc, _⟩
  · simp [Value.ownBlock] at hg
  · simp only [Value.ownBlock, Option.some.injEq] at hg; subst hg; exact (Array.getElem?_eq_some_iff.1 hc).1
section
variable {w0 w w' : World} {b n : Nat} {rp va rp' va' : Value} {X X' : List Nat} {E E' : ErS} {Q N : List (Nat × TypeId × List Value)}
structure Lw (w0 w : World) (b : Nat) (rp va : Value) (X : List Nat) (E : ErS) (n : Nat) (Q : List (Nat × TypeId × List Value)) : Prop where
  et : Et w0 w b rp va X E n (Q.map (·.1))
  me : Mem w0 w Q
theorem Lw.m (h : Lw w0 w b rp va X E n Q) : MemK w [] w0 w Q := MemK.of h.me []
theorem Lw.step (h : Lw w0 w b rp va X E n Q) (hM : MemK w [] w0 w' (N ++ Q)) (hN : ∀ x ∈ N, w.heap.size ≤ x.1) : Lw w0 w' b rp va X E n (N ++ Q) := by
  refine ⟨?_, hM.1⟩
  have : ∀ N' : List (Nat × TypeId × List Value), (∀ x ∈ N', x ∈ N) → Et w0 w' b rp va X E n ((N' ++ Q).map (·.1)) := by
    intro N'
    induction N' with
    | nil => exact fun _ => h.et.keep0 hM.2
    | cons y N' ih =>
      intro hs; have h1 := ih (fun x hx => hs x (List.mem_cons_of_mem _ hx)); have hy := hs y (by simp); have h2 := hM.1.2.2 y (List.mem_append_left _ hy); have hlt := h2.2.lt; have hge := hN y hy; have hb := h.et.lt; have hx := h.et.xlt; have hv : va.ownBlock ≠ some y.1 := fun hh => by have := h.et.hd.glt hh; omega
      refine ⟨h1.blk, ?_, h1.hd, h1.sm, h1.kp, h1.lo, h1.ne, fun z hz => ?_⟩
      · have hr := h1.rep
        cases hP : E.rep with
        | none => rw [hP] at hr; exact hr
        | some P =>
          obtain ⟨p, hp, hR⟩ := h1.reply hP; refine ⟨p, hp, hR.re, hR.ok, hR.kp, fun z hz => ?_⟩; rcases List.mem_cons.1 hz with rfl | hz
          · exact hR.ap z (by simp)
          · rcases List.mem_append.1 hz with hz | hz
            · exact hR.ap z (List.mem_cons_of_mem _ (List.mem_append_left _ hz))
            · rcases List.mem_cons.1 hz with rfl | hz
              · exact ⟨fun hh => by have h9 : y.1 < w.heap.size := (hx _ hh).1; omega, hlt⟩
              · exact hR.ap z (List.mem_cons_of_mem _ (List.mem_append_right _ hz))
      · rcases List.mem_cons.1 hz with rfl | hz
        · exact ⟨by show y.1 ≠ b; omega, hv, hlt⟩
        · exact h1.ap z hz
  exact this N (fun x hx => hx)
theorem Lw.got {n' : Nat} (h : Lw w0 w b rp va X E n Q) (hE : Et w0 w' b rp' va' X' E' n' (Q.map (·.1))) (k : Keep (b :: X) w w') : Lw w0 w' b rp' va' X' E' n' Q := by
  refine ⟨hE, h.me.keep k (fun x hx => ⟨h.et.base x hx, fun y hy => ?_⟩)⟩; rcases List.mem_cons.1 hx with rfl | hx
  · exact (h.et.ap y.1 (List.mem_map.2 ⟨y, hy, rfl⟩)).1
  · exact fun hh => (h.et.xlt x hx).2.2.2 (List.mem_map.2 ⟨y, hy, hh⟩)
theorem Lw.keep0 (h : Lw w0 w b rp va X E n Q) (k : Keep [] w w') : Lw w0 w' b rp va X E n Q := ⟨h.et.keep0 k, h.me.keep0 k⟩
theorem Lw.tail {x : Nat × TypeId × List Value} (h : Lw w0 w b rp va X E n (x :: Q)) : Lw w0 w b rp va X E n Q := ⟨h.et.less (fun l hl => by simp only [List.map_cons]; exact List.mem_cons_of_mem _ hl), h.me.tail⟩
theorem Lw.mono {n' : Nat} (h : Lw w0 w b rp va X E n Q) (hn : n ≤ n') : Lw w0 w b rp va X E n' Q := ⟨h.et.mono hn, h.me⟩
end
end Go.Proofs.YtlhnjkekjbbhcaaGreatDoor
namespace Go.Proofs.YtlhnjkekjbbhcaaGreatDoor
open Go.RowKit Go.Shelf
theorem letters_tgt : ∀ b : Fin 256, lettersB.contains (UInt8.ofNat b.1) = true → tgtB (UInt8.ofNat b.1) = true := by decide +kernel
theorem seps_tgt : ∀ b : Fin 256, sepsB.contains (UInt8.ofNat b.1) = true → tgtB (UInt8.ofNat b.1) = true := by decide +kernel
theorem tags_tgt : ∀ b : Fin 256, tagsB.contains (UInt8.ofNat b.1) = true → tgtB (UInt8.ofNat b.1) = true := by decide +kernel
theorem of_fin {p q : UInt8 → Bool} (h : ∀ b : Fin 256, p (UInt8.ofNat b.1) = true → q (UInt8.ofNat b.1) = true) (b : UInt8) (hb : p b = true) : q b = true := by
  have := h ⟨b.toNat, b.toNat_lt⟩; rw [UInt8.ofNat_toNat] at this; exact this hb
theorem trim_split {s cs : List UInt8} {q : UInt8 → Bool} (h : ∀ b, cs.contains b = true → q b = true) (h2 : (Lib.trimLeftS s cs).all q = true) : s.all q = true := by
  have e : s = s.takeWhile (cs.contains ·) ++ Lib.trimLeftS s cs := (List.takeWhile_append_dropWhile (p := (cs.contains ·)) (l := s)).symm; rw [e, List.all_append, h2, Bool.and_true, List.all_eq_true]; intro b hb; exact h b (List.all_eq_true.1 (List.all_takeWhile (p := (cs.contains ·)) (l := s)) b hb)
theorem part_tgt : ∀ (k : Nat) (s : List UInt8), partM k s = true → s.all tgtB = true
  | 0, s, h => by simp [partM] at h
  | k + 1, s, h => by
    refine trim_split (cs := lettersB) (fun b hb => of_fin letters_tgt b hb) ?_; show (wordR s).all tgtB = true; unfold partM at h
    split at h
    · cases h
    · split at h
      · rename_i h2; rw [h2]; rfl
      · split at h
        · refine trim_split (cs := sepsB) (fun b hb => of_fin seps_tgt b hb) ?_; exact part_tgt k _ h
        · cases h
theorem slash_tgt (k : Nat) : ∀ (m : Nat) (s : List UInt8), s.length ≤ m → s.length ≤ k → (slashF k s).all isPartM = true → s.all tgtB = true
  | m, s, hm, hk, h => by
    cases hl : lastS s with
    | none =>
      rw [slashF_end (lastS_none.1 hl)] at h; simp only [List.all_cons, List.all_nil, Bool.and_true] at h; exact part_tgt _ _ h
    | some q =>
      obtain ⟨h1, h2⟩ := lastS_some.1 hl; rw [slash_last isPartM k s q hk h1 h2, Bool.and_eq_true] at h; have hq := (List.getElem?_eq_some_iff.1 h1).1; have hg : s[q] = 47 := by rw [List.getElem?_eq_getElem hq] at h1; simpa using h1
      have e : s = s.take q ++ 47 :: s.drop (q + 1) := by rw [← hg, ← List.drop_eq_getElem_cons hq, List.take_append_drop]
      rw [e, List.all_append, List.all_cons]; have hl : (s.take q).length < s.length := by rw [List.length_take]; omega
      cases m with
      | zero => omega
      | succ m =>
        rw [slash_tgt k m (s.take q) (by omega) (by omega) h.1, part_tgt _ _ h.2]; decide
theorem repo_tgt {s : List UInt8} (h : isRepoM s = true) : s.all tgtB = true ∧ s.length ≤ 128 := by
  unfold isRepoM at h; rw [Bool.and_eq_true, decide_eq_true_eq] at h; exact ⟨slash_tgt s.length s.length s (Nat.le_refl _) (Nat.le_refl _) h.2, h.1⟩
theorem tag_tgt {s : List UInt8} (h : isTagM s = true) : s.all tgtB = true ∧ s.length ≤ 128 := by
  unfold isTagM at h; simp only [Bool.and_eq_true, decide_eq_true_eq] at h; refine ⟨List.all_eq_true.2 fun b hb => of_fin tags_tgt b (List.all_eq_true.1 h.2 b hb), h.1.1.1.2⟩
theorem dg_vis : ∀ n : Fin 16, (tgtB (dgH n.1) && (textB (dgH n.1) && !([32, 9].contains (dgH n.1)))) = true := by decide +kernel
def visB (b : UInt8) : Bool := tgtB b && (textB b && !(([32, 9] : List UInt8).contains b))
theorem hex_vis : ∀ l : List UInt8, (hexS l).all visB = true
  | [] => rfl
  | b :: l => by
    have hb := b.toNat_lt; have h1 := dg_vis ⟨b.toNat / 16, by omega⟩; have h2 := dg_vis ⟨b.toNat % 16, by omega⟩; have ih := hex_vis l; show (([dgH (b.toNat / 16), dgH (b.toNat % 16)] : List UInt8) ++ hexS l).all visB = true; rw [List.all_append, ih]; simp only [List.all_cons, List.all_nil, visB, Bool.and_true]; rw [h1, h2]; rfl
theorem stamp_vis (l : List UInt8) : (stampM l).all visB = true := by
  unfold stampM; rw [List.all_append, hex_vis]; decide
theorem vis_tgt {l : List UInt8} (h : l.all visB = true) : l.all tgtB = true := List.all_eq_true.2 fun b hb => by
  have := List.all_eq_true.1 h b hb; unfold visB at this; exact (Bool.and_eq_true _ _ ▸ this).1
theorem vis_txt {l : List UInt8} (h : l.all visB = true) : isTxt l = true := List.all_eq_true.2 fun b hb => by
  have := List.all_eq_true.1 h b hb; unfold visB at this; simp only [Bool.and_eq_true] at this; exact this.2.1
theorem drop_none {p : UInt8 → Bool} {l : List UInt8} (h : ∀ b ∈ l, p b = false) : l.dropWhile p = l := by
  cases l with
  | nil => rfl
  | cons b l => rw [List.dropWhile_cons_of_neg (by rw [h b (by simp)]; simp)]
theorem vis_trim {l : List UInt8} (h : l.all visB = true) : trimW l = l := by
  have hn : ∀ b ∈ l, (([32, 9] : List UInt8).contains b) = false := fun b hb => by
    have := List.all_eq_true.1 h b hb; unfold visB at this; simp only [Bool.and_eq_true, Bool.not_eq_true'] at this; exact this.2.2
  unfold trimW Lib.trimS Lib.trimLeftS Lib.trimRightS; rw [drop_none (l := l.reverse) (fun b hb => hn b (List.mem_reverse.1 hb)), List.reverse_reverse, drop_none hn]
theorem text_tgt {k : Ky} (h : goodKyM k = true) : isTgt (rtText (routeM k)) = true ∧ (rtText (routeM k)).length ≤ 300 := by
  have hr : k.repo.all tgtB = true ∧ k.repo.length ≤ 128 := by
    unfold goodKyM at h; rw [Bool.and_eq_true] at h; exact repo_tgt h.1
  have hk : (routeM k).kind ≠ 1 := by unfold routeM; dsimp only; split <;> (try split) <;> omega
  have hw : (rtWord (routeM k)).all tgtB = true ∧ (rtWord (routeM k)).length ≤ 9 := by
    unfold rtWord
    split
    · exact ⟨by decide, by decide⟩
    · exact ⟨by decide, by decide⟩
  have hf : (rtRef (routeM k)).all tgtB = true ∧ (rtRef (routeM k)).length ≤ 128 := by
    unfold rtRef
    split
    · rename_i h2
      have h1 : k.kind = 1 := by
        unfold routeM at h2; dsimp only at h2
        split at h2
        · assumption
        · split at h2 <;> omega
      unfold goodKyM at h; rw [if_pos h1] at h; simp only [Bool.and_eq_true] at h; exact tag_tgt h.2.1
    · exact ⟨vis_tgt (stamp_vis _), by rw [stampM_len]; omega⟩
  have hrt : (routeM k).repo = k.repo := rfl; unfold rtText; rw [if_neg hk, hrt]; constructor
  · unfold isTgt; simp only [List.all_append, hr.1, hw.1, hf.1, Bool.and_true]; have : rootB.all tgtB = true := by decide
    have h2 : ([47] : List UInt8).all tgtB = true := by decide
    rw [this, h2]; simp [rootB]
  · simp only [List.length_append]; have : rootB.length = 4 := rfl; simp only [List.length_singleton]; omega
theorem meth_ok (k : Ky) : isTok (methB k) = true ∧ (32 : UInt8) ∉ methB k ∧ (methB k).length ≤ 4 := by
  unfold methB
  split
  · exact ⟨by decide, by decide, by decide⟩
  · exact ⟨by decide, by decide, by decide⟩
theorem ask_ok {k : Ky} (h : goodKyM k = true) : askOk (methB k) (rtText (routeM k)) = true := by
  obtain ⟨m1, m2, m3⟩ := meth_ok k; obtain ⟨t1, t2⟩ := text_tgt h; generalize methB k = m at *; generalize rtText (routeM k) = t at *
  have hsp : (32 : UInt8) ∉ t := fun hh => by
    unfold isTgt at t1; rw [Bool.and_eq_true] at t1; exact absurd (List.all_eq_true.1 t1.1 32 hh) (by decide)
  have e1 : askT m t = m ++ 32 :: (t ++ 32 :: protB) := by simp [askT]
  have c1 := cut_by m (t ++ 32 :: protB) 32 m2; have c2 := cut_by t protB 32 hsp; unfold askOk; rw [Bool.and_eq_true, decide_eq_true_eq, decide_eq_true_eq]; constructor
  · unfold lnM; rw [e1, c1]; dsimp only; rw [c2]; dsimp only; have hp : minS protB = 200 := by decide
    rw [m1, t1, if_pos (by decide), if_pos hp]
  · rw [e1]; simp only [List.length_append, List.length_cons]; have : protB.length = 8 := rfl; omega
theorem inm_good (t : Tk) : goodF (inmF t) = true := by
  have hv : (([34] : List UInt8) ++ stampM t.dig.1 ++ [34]).all visB = true := by
    rw [List.all_append, List.all_append, stamp_vis]; decide
  unfold goodF inmF; dsimp only; rw [vis_txt hv, vis_trim hv]; simp; decide
theorem good_asked {k : Ky} (t : Tk) (h : goodKyM k = true) : askedE k [117, 112] t = 0 := by
  have h1 := ask_ok h
  have hl : laidOk (askF k [117, 112] t) = true := by
    have g1 : goodF ⟨nHost, [117, 112]⟩ = true := by decide
    have g2 : goodF ⟨acceptB, accB⟩ = true := by decide
    have g3 := inm_good t; unfold laidOk askF
    split <;> split <;> simp [g1, g2, g3]
  have hx : (headT (askT (methB k) (rtText (routeM k))) (askF k [117, 112] t)).length ≤ 4096 := by
    have ht := (text_tgt h).2; have hm := (meth_ok k).2.2; have hs := stampM_len t.dig; have hp : protB.length = 8 := rfl; have ha : acceptB.length = 6 := rfl; have hb : accB.length ≤ 1000 := by decide
    have hh : nHost.length = 4 := rfl; have hi : inmB.length = 13 := rfl; unfold headT askF askT
    split <;> split <;> simp [bodyT, printF, inmF, hs, ha, hh, hi, hp] <;> omega
  unfold askedE; rw [if_pos]; refine ⟨h, ?_⟩; unfold askE; rw [if_pos h1]; unfold laidE; rw [if_pos hl, if_pos hx]
theorem siz_in (n : Int) : 0 ≤ sizM n ∧ sizM n ≤ 1048576 := by unfold sizM; split <;> omega
theorem judge_good {k : Ky} {t : Tk} {a : Ans} {x : Int} (hx : in64 x) (ht : t.typ.length ≤ 140737488351232) (hs : in64 t.size) (hl : (typM a.F).length ≤ 140737488351232) : goodRs (judgeR k t a x) := by
  have hz := siz_in a.len; unfold in64 at hx hs
  have g : ∀ (s : Int) (d : Dig) (l : List UInt8) (z y : Int), l.length ≤ 140737488351232 → (0 ≤ s ∧ s ≤ 600) → in64 z → in64 y → goodRs ⟨s, d, l, z, y⟩ := fun s d l z y h1 h2 h3 h4 => by
    unfold in64 at h3 h4; refine ⟨?_, ⟨?_, ?_⟩, ⟨h3.1, h3.2⟩, ⟨h4.1, h4.2⟩⟩
    · show l.length ≤ 9223372036854775807; omega
    · show _ ≤ s; omega
    · show s ≤ _; omega
  have i0 : in64 0 := by unfold in64; omega
  have n0 : ([] : List UInt8).length ≤ 140737488351232 := by decide
  have hsz : in64 (sizM a.len) := by unfold in64; omega
  unfold judgeR
  split
  · exact g _ _ _ _ _ n0 (by omega) i0 hx
  · split
    · exact g _ _ _ _ _ n0 (by omega) i0 i0
    · split
      · split
        · exact g _ _ _ _ _ n0 (by omega) i0 i0
        · unfold foundM
          split
          · exact g _ _ _ _ _ hl (by omega) hsz hx
          · split
            · exact g _ _ _ _ _ hl (by omega) hsz hx
            · exact g _ _ _ _ _ n0 (by omega) i0 i0
      · split
        · exact g _ _ _ _ _ ht (by omega) hs hx
        · exact g _ _ _ _ _ n0 (by omega) i0 i0
theorem typM_le {F : List Fld} (h : ∀ x ∈ F, x.value.length ≤ 1048576) : (typM F).length ≤ 140737488351232 := by
  have := getV_le (n := ctB) h; unfold typM
  split
  · omega
  · decide
end Go.Proofs.YtlhnjkekjbbhcaaGreatDoor
