/- Parts of the proof of ErrandAsks, in order. No conditions but those that each theorem states. -/
import Derived.Test.YtlhnjkekjbbhcaaGreatDoorYErrandAsks0
import Derived.Lib.SlBytesConst
import Derived.Lib.LaidTab
import Derived.Lib.ItoaNum
import Derived.Lib.ItoaLen
import Derived.Sort.Grow
import Derived.Test.YtlhnjkekjbbhcaaGreatDoorYErrandAsks33
import Derived.Test.YtlhnjkekjbbhcaaGreatDoorYErrandAsks34
set_option linter.unusedSimpArgs false
set_option linter.unusedVariables false
namespace Go.Proofs.YtlhnjkekjbbhcaaGreatDoor
open Go.RowKit Go.Shelf
def Cf.cells (c : Cf) : List Value := [.string (S c.host), .int .i64 c.gu, .int .i64 c.ca, .int .i64 c.fl, .int .i64 c.bu, .int .i64 c.re, .int .i64 c.st, .float .f64 c.ttl, .float .f64 c.mt, .float .f64 c.ms, .float .f64 c.tm, .float .f64 c.bo, .float .f64 c.pr]
theorem Cf.len (c : Cf) : c.cells.length = 13 := rfl
theorem Cf.one (c : Cf) : ∀ v ∈ c.cells, v.oneCell' = true := by
  intro v hv; simp only [Cf.cells, List.mem_cons, List.not_mem_nil, or_false] at hv; rcases hv with rfl | rfl | rfl | rfl | rfl | rfl | rfl | rfl | rfl | rfl | rfl | rfl | rfl <;> rfl
theorem cf_size (c : Cf) : (Tryz.prog.info? 48).map (·.size) = some c.cells.length := by rw [c.len]; kernel_rfl
def ErS.top (E : ErS) (rp va : Value) : List Value := [rp, .int .i64 E.began, .int .i64 E.last, .int .i64 E.head.st, va, .int .i64 E.head.len, .bool E.head.ch, .bool E.head.cl, .bool E.body, .string (S E.data), .int .i64 E.taken, .int .i64 E.size, .bool E.reuse]
def ErS.mid (E : ErS) : List Value := [.int .i64 E.state, .int .i64 E.unt]
def ErS.low (E : ErS) : List Value := [.int .i64 E.tries, .int .i64 E.misses, .int .i64 E.silent, .int .i64 E.heard]
def ErS.cells (E : ErS) (rp va : Value) : List Value := E.top rp va ++ (E.key.cells ++ (E.cfg.cells ++ (E.known.cells ++ (E.mid ++ (E.res.cells ++ E.low)))))
theorem ErS.len (E : ErS) (rp va : Value) : (E.cells rp va).length = 142 := by
  simp only [ErS.cells, List.length_append, Ky.len, Cf.len, Tk.len, Rs.len]; rfl
theorem get_skip {l r : List Value} {n : Nat} (h : l.length = n) (i : Nat) : (l ++ r)[n + i]? = r[i]? := by
  rw [List.getElem?_append_right (by omega), h, Nat.add_sub_cancel_left]
theorem set_skip {l r : List Value} {n : Nat} (h : l.length = n) (i : Nat) (v : Value) : (l ++ r).set (n + i) v = l ++ r.set i v := by
  rw [List.set_append_right _ _ (by omega), h, Nat.add_sub_cancel_left]
theorem er_key (E : ErS) (rp va : Value) {i : Nat} (hi : i < 36) : (E.cells rp va)[13 + i]? = E.key.cells[i]? := by
  have h1 : (E.top rp va).length = 13 := rfl; unfold ErS.cells; rw [get_skip h1, List.getElem?_append_left (by rw [E.key.len]; exact hi)]
theorem er_cfg (E : ErS) (rp va : Value) {i : Nat} (hi : i < 13) : (E.cells rp va)[49 + i]? = E.cfg.cells[i]? := by
  have h1 : (E.top rp va).length = 13 := rfl; unfold ErS.cells; rw [show 49 + i = 13 + (36 + i) by omega, get_skip h1, get_skip E.key.len, List.getElem?_append_left (by rw [E.cfg.len]; exact hi)]
theorem er_known (E : ErS) (rp va : Value) {i : Nat} (hi : i < 38) : (E.cells rp va)[62 + i]? = E.known.cells[i]? := by
  have h1 : (E.top rp va).length = 13 := rfl; unfold ErS.cells; rw [show 62 + i = 13 + (36 + (13 + i)) by omega, get_skip h1, get_skip E.key.len, get_skip E.cfg.len, List.getElem?_append_left (by rw [E.known.len]; exact hi)]
theorem er_mid (E : ErS) (rp va : Value) {i : Nat} (hi : i < 2) : (E.cells rp va)[100 + i]? = E.mid[i]? := by
  have h1 : (E.top rp va).length = 13 := rfl; unfold ErS.cells; rw [show 100 + i = 13 + (36 + (13 + (38 + i))) by omega, get_skip h1, get_skip E.key.len, get_skip E.cfg.len, get_skip E.known.len, List.getElem?_append_left (by show i < 2; exact hi)]
theorem er_res (E : ErS) (rp va : Value) {i : Nat} (hi : i < 36) : (E.cells rp va)[102 + i]? = E.res.cells[i]? := by
  have h1 : (E.top rp va).length = 13 := rfl; have h2 : E.mid.length = 2 := rfl; unfold ErS.cells; rw [show 102 + i = 13 + (36 + (13 + (38 + (2 + i)))) by omega, get_skip h1, get_skip E.key.len, get_skip E.cfg.len, get_skip E.known.len, get_skip h2, List.getElem?_append_left (by rw [E.res.len]; exact hi)]
theorem er_low (E : ErS) (rp va : Value) (i : Nat) : (E.cells rp va)[138 + i]? = E.low[i]? := by
  have h1 : (E.top rp va).length = 13 := rfl; have h2 : E.mid.length = 2 := rfl; unfold ErS.cells; rw [show 138 + i = 13 + (36 + (13 + (38 + (2 + (36 + i))))) by omega, get_skip h1, get_skip E.key.len, get_skip E.cfg.len, get_skip E.known.len, get_skip h2, get_skip E.res.len]
theorem er_smid (E : ErS) (rp va : Value) {i : Nat} (hi : i < 2) (v : Value) : (E.cells rp va).set (100 + i) v = E.top rp va ++ (E.key.cells ++ (E.cfg.cells ++ (E.known.cells ++ (E.mid.set i v ++ (E.res.cells ++ E.low))))) := by
  have h1 : (E.top rp va).length = 13 := rfl; unfold ErS.cells; rw [show 100 + i = 13 + (36 + (13 + (38 + i))) by omega, set_skip h1, set_skip E.key.len, set_skip E.cfg.len, set_skip E.known.len, List.set_append_left _ _ (by show i < 2; exact hi)]
theorem er_slow (E : ErS) (rp va : Value) (i : Nat) (v : Value) : (E.cells rp va).set (138 + i) v = E.top rp va ++ (E.key.cells ++ (E.cfg.cells ++ (E.known.cells ++ (E.mid ++ (E.res.cells ++ E.low.set i v))))) := by
  have h1 : (E.top rp va).length = 13 := rfl; have h2 : E.mid.length = 2 := rfl; unfold ErS.cells; rw [show 138 + i = 13 + (36 + (13 + (38 + (2 + (36 + i))))) by omega, set_skip h1, set_skip E.key.len, set_skip E.cfg.len, set_skip E.known.len, set_skip h2, set_skip E.res.len]
structure Et (w0 w : World) (b : Nat) (rp va : Value) (X : List Nat) (E : ErS) (n : Nat) (L : List Nat) : Prop where
  blk : Blk w b 106 (E.cells rp va)
  rep : match E.rep with
    | none => rp = .pointer none ∧ X = []
    | some P => ∃ p, rp = .pointer (some ⟨p, 0, none⟩) ∧ Rp w0 w p X P n (b :: (va.ownBlock.toList ++ L))
  hd : Own Fld.cells 2 w0.heap.size 89 w va E.head.F
  sm : ∀ f ∈ E.head.F, f.name.length ≤ 1048576 ∧ f.value.length ≤ 1048576
  kp : Keep [] w0 w
  lo : w0.heap.size ≤ b
  ne : va.ownBlock ≠ some b
  ap : ∀ l ∈ L, l ≠ b ∧ va.ownBlock ≠ some l ∧ l < w.heap.size
theorem er_top (E : ErS) (rp va : Value) (i : Nat) (hi : i < 13) : (E.cells rp va)[i]? = (E.top rp va)[i]? := by
  unfold ErS.cells; exact List.getElem?_append_left hi
theorem er_stop (E : ErS) (rp va : Value) (i : Nat) (hi : i < 13) (v : Value) : (E.cells rp va).set i v = (E.top rp va).set i v ++ (E.key.cells ++ (E.cfg.cells ++ (E.known.cells ++ (E.mid ++ (E.res.cells ++ E.low))))) := by
  unfold ErS.cells; exact List.set_append_left _ _ hi
theorem g_rep (E : ErS) (rp va : Value) : (E.cells rp va)[0]? = some rp := er_top E rp va 0 (by omega)
theorem g_began (E : ErS) (rp va : Value) : (E.cells rp va)[1]? = some (.int .i64 E.began) := er_top E rp va 1 (by omega)
theorem g_last (E : ErS) (rp va : Value) : (E.cells rp va)[2]? = some (.int .i64 E.last) := er_top E rp va 2 (by omega)
theorem g_len (E : ErS) (rp va : Value) : (E.cells rp va)[5]? = some (.int .i64 E.head.len) := er_top E rp va 5 (by omega)
theorem g_cl (E : ErS) (rp va : Value) : (E.cells rp va)[7]? = some (.bool E.head.cl) := er_top E rp va 7 (by omega)
theorem g_body (E : ErS) (rp va : Value) : (E.cells rp va)[8]? = some (.bool E.body) := er_top E rp va 8 (by omega)
theorem g_data (E : ErS) (rp va : Value) : (E.cells rp va)[9]? = some (.string (S E.data)) := er_top E rp va 9 (by omega)
theorem g_taken (E : ErS) (rp va : Value) : (E.cells rp va)[10]? = some (.int .i64 E.taken) := er_top E rp va 10 (by omega)
theorem g_size (E : ErS) (rp va : Value) : (E.cells rp va)[11]? = some (.int .i64 E.size) := er_top E rp va 11 (by omega)
theorem g_reuse (E : ErS) (rp va : Value) : (E.cells rp va)[12]? = some (.bool E.reuse) := er_top E rp va 12 (by omega)
theorem g_kind (E : ErS) (rp va : Value) : (E.cells rp va)[13]? = some (.int .i64 E.key.kind) := er_key E rp va (i := 0) (by omega)
theorem g_host (E : ErS) (rp va : Value) : (E.cells rp va)[49]? = some (.string (S E.cfg.host)) := er_cfg E rp va (i := 0) (by omega)
theorem g_re (E : ErS) (rp va : Value) : (E.cells rp va)[54]? = some (.int .i64 E.cfg.re) := er_cfg E rp va (i := 5) (by omega)
theorem g_bo (E : ErS) (rp va : Value) : (E.cells rp va)[60]? = some (.float .f64 E.cfg.bo) := er_cfg E rp va (i := 11) (by omega)
theorem g_state (E : ErS) (rp va : Value) : (E.cells rp va)[100]? = some (.int .i64 E.state) := er_mid E rp va (i := 0) (by omega)
theorem g_unt (E : ErS) (rp va : Value) : (E.cells rp va)[101]? = some (.int .i64 E.unt) := er_mid E rp va (i := 1) (by omega)
theorem g_tries (E : ErS) (rp va : Value) : (E.cells rp va)[138]? = some (.int .i64 E.tries) := er_low E rp va 0
theorem g_misses (E : ErS) (rp va : Value) : (E.cells rp va)[139]? = some (.int .i64 E.misses) := er_low E rp va 1
theorem g_silent (E : ErS) (rp va : Value) : (E.cells rp va)[140]? = some (.int .i64 E.silent) := er_low E rp va 2
theorem g_heard (E : ErS) (rp va : Value) : (E.cells rp va)[141]? = some (.int .i64 E.heard) := er_low E rp va 3
theorem s_last (E : ErS) (rp va : Value) (x : Int) : (E.cells rp va).set 2 (.int .i64 x) = ({ E with last := x } : ErS).cells rp va := er_stop E rp va 2 (by omega) _
theorem s_body (E : ErS) (rp va : Value) (x : Bool) : (E.cells rp va).set 8 (.bool x) = ({ E with body := x } : ErS).cells rp va := er_stop E rp va 8 (by omega) _
theorem s_data (E : ErS) (rp va : Value) (x : List UInt8) : (E.cells rp va).set 9 (.string (S x)) = ({ E with data := x } : ErS).cells rp va := er_stop E rp va 9 (by omega) _
theorem s_taken (E : ErS) (rp va : Value) (x : Int) : (E.cells rp va).set 10 (.int .i64 x) = ({ E with taken := x } : ErS).cells rp va := er_stop E rp va 10 (by omega) _
theorem s_size (E : ErS) (rp va : Value) (x : Int) : (E.cells rp va).set 11 (.int .i64 x) = ({ E with size := x } : ErS).cells rp va := er_stop E rp va 11 (by omega) _
theorem s_reuse (E : ErS) (rp va : Value) (x : Bool) : (E.cells rp va).set 12 (.bool x) = ({ E with reuse := x } : ErS).cells rp va := er_stop E rp va 12 (by omega) _
theorem s_state (E : ErS) (rp va : Value) (x : Int) : (E.cells rp va).set 100 (.int .i64 x) = ({ E with state := x } : ErS).cells rp va := er_smid E rp va (i := 0) (by omega) _
theorem s_unt (E : ErS) (rp va : Value) (x : Int) : (E.cells rp va).set 101 (.int .i64 x) = ({ E with unt := x } : ErS).cells rp va := er_smid E rp va (i := 1) (by omega) _
theorem s_tries (E : ErS) (rp va : Value) (x : Int) : (E.cells rp va).set 138 (.int .i64 x) = ({ E with tries := x } : ErS).cells rp va := er_slow E rp va 0 _
theorem s_misses (E : ErS) (rp va : Value) (x : Int) : (E.cells rp va).set 139 (.int .i64 x) = ({ E with misses := x } : ErS).cells rp va := er_slow E rp va 1 _
theorem s_silent (E : ErS) (rp va : Value) (x : Int) : (E.cells rp va).set 140 (.int .i64 x) = ({ E with silent := x } : ErS).cells rp va := er_slow E rp va 2 _
theorem s_heard (E : ErS) (rp va : Value) (x : Int) : (E.cells rp va).set 141 (.int .i64 x) = ({ E with heard := x } : ErS).cells rp va := er_slow E rp va 3 _
def ErS.upto (E : ErS) (rp va : Value) : List Value := E.top rp va ++ (E.key.cells ++ (E.cfg.cells ++ (E.known.cells ++ E.mid)))
theorem ErS.upto_len (E : ErS) (rp va : Value) : (E.upto rp va).length = 102 := by
  simp only [ErS.upto, List.length_append, Ky.len, Cf.len, Tk.len]; rfl
theorem p_res (E : ErS) (rp va : Value) : E.cells rp va = E.upto rp va ++ E.res.cells ++ E.low := by
  simp only [ErS.cells, ErS.upto, List.append_assoc]
theorem p_res' (E : ErS) (rp va : Value) (r : Rs) : E.upto rp va ++ r.cells ++ E.low = ({ E with res := r } : ErS).cells rp va := by
  simp only [ErS.cells, ErS.upto, List.append_assoc]; rfl
def ErS.pre3 (E : ErS) (rp : Value) : List Value := [rp, .int .i64 E.began, .int .i64 E.last]
def ErS.post8 (E : ErS) : List Value := [.bool E.body, .string (S E.data), .int .i64 E.taken, .int .i64 E.size, .bool E.reuse] ++ (E.key.cells ++ (E.cfg.cells ++ (E.known.cells ++ (E.mid ++ (E.res.cells ++ E.low)))))
theorem p_head (E : ErS) (rp va : Value) : E.cells rp va = E.pre3 rp ++ ansC E.head.st va E.head.len E.head.ch E.head.cl ++ E.post8 := rfl
theorem p_head' (E : ErS) (rp va : Value) (a : Ans) : E.pre3 rp ++ ansC a.st va a.len a.ch a.cl ++ E.post8 = ({ E with head := a } : ErS).cells rp va := rfl
def ErS.past (E : ErS) : List Value := E.key.cells ++ (E.cfg.cells ++ (E.known.cells ++ (E.mid ++ (E.res.cells ++ E.low))))
theorem p_top (E : ErS) (rp va : Value) : E.cells rp va = [] ++ E.top rp va ++ E.past := rfl
def smallA (a : Ans) : Prop := ∀ f ∈ a.F, f.name.length ≤ 1048576 ∧ f.value.length ≤ 1048576
section
variable {w0 w w' : World} {b n : Nat} {rp va : Value} {X L : List Nat} {E E' : ErS}
theorem Et.lt (h : Et w0 w b rp va X E n L) : b < w.heap.size := h.blk.lt
theorem Et.an (h : Et w0 w b rp va X E n L) : AnIn w va E.head.F := ⟨h.hd.sl Fld.cells_length, fun f hf => (h.sm f hf).1, fun f hf => (h.sm f hf).2⟩
theorem Et.mem (h : Et w0 w b rp va X E n L) : MemK w (b :: X) w0 w [(b, 106, E.cells rp va)] := by
  refine ⟨⟨h.kp, fun i j x y hi hj _ => ?_, fun x hx => ?_⟩, Keep.refl _ _⟩
  · have h1 : i < 1 := (List.getElem?_eq_some_iff.1 hi).1; have h2 : j < 1 := (List.getElem?_eq_some_iff.1 hj).1; omega
  · simp only [List.mem_singleton] at hx; subst hx; exact ⟨h.lo, h.blk⟩
theorem Et.reply (h : Et w0 w b rp va X E n L) {P : ReS} (hP : E.rep = some P) : ∃ p, rp = .pointer (some ⟨p, 0, Option.none⟩) ∧ Rp w0 w p X P n (b :: (va.ownBlock.toList ++ L)) := by
  have := h.rep; rw [hP] at this; exact this
theorem Et.base (h : Et w0 w b rp va X E n L) : ∀ x ∈ b :: X, w0.heap.size ≤ x := by
  intro x hx; rcases List.mem_cons.1 hx with rfl | hx
  · exact h.lo
  · have hr := h.rep
    cases hP : E.rep with
    | none => rw [hP] at hr; rw [hr.2] at hx; cases hx
    | some P =>
      obtain ⟨p, _, hR⟩ := h.reply hP; exact (hR.re.lo x hx).1
theorem Et.xlt (h : Et w0 w b rp va X E n L) : ∀ x ∈ X, x < w.heap.size ∧ x ≠ b ∧ va.ownBlock ≠ some x ∧ x ∉ L := by
  intro x hx; have hr := h.rep
  cases hP : E.rep with
  | none => rw [hP] at hr; rw [hr.2] at hx; cases hx
  | some P =>
    obtain ⟨p, _, hR⟩ := h.reply hP; refine ⟨(hR.re.lo x hx).2, fun hh => ?_, fun hh => ?_, fun hh => ?_⟩
    · exact (hR.ap b (by simp)).1 (hh ▸ hx)
    · exact (hR.ap x (by rw [hh]; simp)).1 hx
    · exact (hR.ap x (by simp [hh])).1 hx
theorem Et.keep {T : List Nat} (h : Et w0 w b rp va X E n L) (k : Keep T w w') (hT : ∀ x ∈ T, w0.heap.size ≤ x) (hb : b ∉ T) (hX : ∀ x ∈ X, x ∉ T) (hv : ∀ g, va.ownBlock = some g → g ∉ T) : Et w0 w' b rp va X E n L := by
  refine ⟨k.blk h.blk hb, ?_, h.hd.keep k hv, h.sm, h.kp.above k hT, h.lo, h.ne, fun l hl => ⟨(h.ap l hl).1, (h.ap l hl).2.1, Nat.lt_of_lt_of_le (h.ap l hl).2.2 k.size⟩⟩; have hr := h.rep
  cases hP : E.rep with
  | none => rw [hP] at hr; exact hr
  | some P =>
    obtain ⟨p, hp, hR⟩ := h.reply hP; exact ⟨p, hp, hR.keep k hT hX⟩
theorem Et.keep0 (h : Et w0 w b rp va X E n L) (k : Keep [] w w') : Et w0 w' b rp va X E n L := h.keep k (by simp) (by simp) (by simp) (by simp)
theorem Et.own (h : Et w0 w b rp va X E n L) (k : Keep [b] w w') (hB : Blk w' b 106 (E'.cells rp va)) (hr : E'.rep = E.rep) (hh : E'.head.F = E.head.F) : Et w0 w' b rp va X E' n L := by
  have hx := h.xlt; refine ⟨hB, ?_, ?_, ?_, h.kp.above k (by simpa using h.lo), h.lo, h.ne, fun l hl => ⟨(h.ap l hl).1, (h.ap l hl).2.1, Nat.lt_of_lt_of_le (h.ap l hl).2.2 k.size⟩⟩
  · have hr' := h.rep; rw [hr]
    cases hP : E.rep with
    | none => rw [hP] at hr'; exact hr'
    | some P =>
      obtain ⟨p, hp, hR⟩ := h.reply hP; exact ⟨p, hp, hR.keep k (by simpa using h.lo) (fun x hx' => by simpa using (hx x hx').2.1)⟩
  · rw [hh]; exact h.hd.keep k (fun g hg => by simp only [List.mem_singleton]; rintro rfl; exact h.ne hg)
  · rw [hh]; exact h.sm
theorem Et.called {p n' : Nat} {X' : List Nat} {P P' : ReS} (h : Et w0 w b rp va X E n L) (_hP : E.rep = some P) (hp : rp = .pointer (some ⟨p, 0, Option.none⟩)) (hR : Rp w0 w' p X' P' n' (b :: (va.ownBlock.toList ++ L))) (k : Keep X w w') : Et w0 w' b rp va X' { E with rep := some P' } n' L := by
  have hx := h.xlt; have hb := h.base; refine ⟨k.blk h.blk (fun hh => (hx b hh).2.1 rfl), ⟨p, hp, hR⟩, h.hd.keep k (fun g hg hh => (hx g hh).2.2.1 hg), h.sm, h.kp.above k (fun x hx' => hb x (List.mem_cons_of_mem _ hx')), h.lo, h.ne, fun l hl => ⟨(h.ap l hl).1, (h.ap l hl).2.1, Nat.lt_of_lt_of_le (h.ap l hl).2.2 k.size⟩⟩
end
end Go.Proofs.YtlhnjkekjbbhcaaGreatDoor
namespace Go.Proofs.YtlhnjkekjbbhcaaGreatDoor
open Go.RowKit Go.Shelf
section
variable {w0 w : World} {b n : Nat} {rp va : Value} {X L : List Nat} {E : ErS}
set_option maxRecDepth 100000 in
set_option maxHeartbeats 400000 in
theorem er_State (h : Et w0 w b rp va X E n L) : Calls Tryz.prog 18 #[.pointer (some ⟨b, 0, Option.none⟩)] w fun e w' => e = .returned (.int .i64 E.state) ∧ w = w' := by
  have c := h.blk.get (g_state E rp va); clear h; go_enter Tryz.func18, Tryz.ntmps18; go_wp2_with fail; go_ret; exact ⟨rfl, rfl⟩
set_option maxRecDepth 100000 in
set_option maxHeartbeats 400000 in
theorem er_Tries (h : Et w0 w b rp va X E n L) : Calls Tryz.prog 20 #[.pointer (some ⟨b, 0, Option.none⟩)] w fun e w' => e = .returned (.int .i64 E.tries) ∧ w = w' := by
  have c := h.blk.get (g_tries E rp va); clear h; go_enter Tryz.func20, Tryz.ntmps20; go_wp2_with fail; go_ret; exact ⟨rfl, rfl⟩
set_option maxRecDepth 100000 in
set_option maxHeartbeats 400000 in
theorem er_Reuse (h : Et w0 w b rp va X E n L) : Calls Tryz.prog 42 #[.pointer (some ⟨b, 0, Option.none⟩)] w fun e w' => e = .returned (.bool E.reuse) ∧ w = w' := by
  have c := h.blk.get (g_reuse E rp va); clear h; go_enter Tryz.func42, Tryz.ntmps42; go_wp2_with fail; go_ret; exact ⟨rfl, rfl⟩
set_option maxRecDepth 100000 in
set_option maxHeartbeats 800000 in
theorem er_Wants (h : Et w0 w b rp va X E n L) (now : Int) : Calls Tryz.prog 21 #[.pointer (some ⟨b, 0, Option.none⟩), .int .i64 now] w fun e w' => e = .returned (.bool (decide (E.state = 1) && decide (E.unt ≤ now))) ∧ w = w' := by
  have c := h.blk.get (g_unt E rp va); have hs := er_State h; clear h; by_cases h1 : E.state = 1
  · have e1 := (int_eq h1).1; rw [decide_eq_true h1]; generalize E.state = x at *; clear h1; go_enter Tryz.func21, Tryz.ntmps21; go_wp2_with (go_at_call 18; refine hs.mono ?_; rintro e w' ⟨rfl, rfl⟩); go_ret; exact ⟨rfl, rfl⟩
  · have e1 := (int_ne h1).1; rw [decide_eq_false h1]; generalize E.state = x at *; clear h1; go_enter Tryz.func21, Tryz.ntmps21; go_wp2_with (go_at_call 18; refine hs.mono ?_; rintro e w' ⟨rfl, rfl⟩); go_ret; exact ⟨rfl, rfl⟩
set_option maxRecDepth 100000 in
set_option maxHeartbeats 800000 in
theorem er_Result (h : Et w0 w b rp va X E n L) : Calls Tryz.prog 19 #[.pointer (some ⟨b, 0, Option.none⟩)] w fun e w' => e = .returned (.agg E.res.cells.toArray) ∧ Keep [] w w' := by
  have M0 : Hid (MemK w [] w0 w [(b, 106, E.cells rp va)]) := Lib.hid (MemK.of h.mem.1 []); clear h; go_enter Tryz.func19, Tryz.ntmps19
  go_wp2_with (first | ((with_reducible refine gA 2 ?_); refine wpList_allocK rfl 39 rfl (rs0.cells) (Lib.hid rs_zero) M0 ?_; intro c w1 M1 hnewc; try simp only [Act.put, sqA, sqB, sqC]) | ((with_reducible refine gL 9 8 ?_); refine wpList_loadPartK (by rfl) 39 (.tmp 8) rfl M1 1 rfl 102 (by rfl) (E.res.cells) (fun j v hv => (er_res E rp va (by have := (List.getElem?_eq_some_iff.1 hv).1; rw [Rs.len] at this; exact this)).trans hv) _ Tryz.underlying39 rfl (rs_size _) ?_; try simp only [Act.put, sqA, sqB, sqC]) | ((with_reducible refine gS 2 9 ?_); refine wpList_storeK rfl 39 (.tmp 2) (.tmp 9) rfl M1 0 rfl (by rfl) (E.res.cells) (by rfl) (rs_size _) (by rw [Rs.len, Rs.len]) (Rs.one _) (fun hlt => absurd hnewc.out (by omega)) ?_; intro w2 M2; try simp only [Act.put]) | fail); have hload := rs_end M2.out.1 0 rfl; refine bodyPost_ret (v := .agg E.res.cells.toArray) (by simp [results, Tryz.results19, asAddr, hload]) rfl ⟨rfl, M2.out.2⟩
set_option maxRecDepth 100000 in
set_option maxHeartbeats 1600000 in
theorem er_Take (h : Et w0 w b rp va X E n L) (hd : E.data.length ≤ 70368744177664) (ht : 0 ≤ E.taken ∧ E.taken ≤ 70368744177664) : Calls Tryz.prog 25 #[.pointer (some ⟨b, 0, Option.none⟩)] w fun e w' => e = .returned (.tuple #[.string (S E.data), .int .i64 E.taken]) ∧ Et w0 w' b rp va X (erTook E) n L ∧ Keep [b] w w' := by
  have c9 := h.blk.get (g_data E rp va); have c10 := h.blk.get (g_taken E rp va); have M0 : Hid (MemK w [b] w0 w [(b, 106, E.cells rp va)]) := Lib.hid (MemK.of h.mem.1 [b]); have H := Lib.hid h; clear h; go_enter Tryz.func25, Tryz.ntmps25
  go_upto_region 3 with fail
  go_cut [4, 5] (fun x y wx => x = .string (S E.data) ∧ y = .int .i64 E.taken ∧ Hid (Keep [] w wx))
  case first =>
    go_quiet (fail); go_wp2_with fail; go_meet; exact ⟨rfl, rfl, Lib.hid ((Keep.refl _ _).drewN _)⟩
  obtain ⟨rfl, rfl, kq⟩ := hcut; have MQ := Lib.hid (M0.out.keep0 kq.out); have hsz : (S E.data).size = E.data.length := rfl; clear c9 c10 kq
  go_wp2_with (first | ((with_reducible refine gT 21 ?_); refine wpList_store1K rfl 9 (.tmp 21) _ rfl MQ 0 rfl 9 (by rfl) (.string (S [])) (by rfl) rfl rfl (by kernel_rfl) (by rw [ErS.len]; omega) (fun _ => by simp) ?_; intro w1 M1; have hR := M1.out; simp only [sqC, s_data] at hR; clear M1; have M1 := Lib.hid hR; clear hR; have c10 := M1.out.get 0 rfl 10 (g_taken _ _ _); try simp only [Act.put]) | ((with_reducible refine gT 32 ?_); refine wpList_store1K rfl 3 (.tmp 32) _ rfl M1 0 rfl 10 (by rfl) (.int .i64 (E.taken + (E.data.length : Nat))) (by rfl) rfl rfl (by kernel_rfl) (by rw [ErS.len]; omega) (fun _ => by simp) ?_; intro w2 M2; have hR := M2.out; simp only [sqC, s_taken] at hR; clear M2; have M2 := Lib.hid hR; clear hR; try simp only [Act.put]) | fail); go_ret2; exact ⟨rfl, H.out.own M2.out.2 (M2.out.1.blk 0 rfl) rfl rfl, M2.out.2⟩
end
end Go.Proofs.YtlhnjkekjbbhcaaGreatDoor
namespace Go.Proofs.YtlhnjkekjbbhcaaGreatDoor
open Go.RowKit
theorem cls_num {b : Nat} (h : fNan b = false) : clsM b ≠ 1 := by
  unfold clsM; rw [h]; cases fInfN b <;> cases fInfP b <;> cases fNeg b <;> cases fPos b <;> cases fSign b <;> simp
set_option maxRecDepth 100000 in
set_option maxHeartbeats 1600000 in
theorem real_isNumber (g x y z : Nat) (w : World) (hx : fNan x = false) (hy : fNan y = false) (hz : fNan z = false) (c0 : w.cell? ⟨g, 0, none⟩ = some (.float .f64 x)) (c1 : w.cell? ⟨g, 1, none⟩ = some (.float .f64 y)) (c2 : w.cell? ⟨g, 2, none⟩ = some (.float .f64 z)) :
    Calls Tryz.prog 109 #[.slice (some ⟨g, 0, none⟩) 3 3] w fun e w' => e = .returned (.bool true) ∧ w = w' := by
  have e1 := (int_ne (cls_num hx)).1; have e2 := (int_ne (cls_num hy)).1; have e3 := (int_ne (cls_num hz)).1; have h1 := real_Class x; have h2 := real_Class y; have h3 := real_Class z; generalize clsM x = a1 at *; generalize clsM y = a2 at *; generalize clsM z = a3 at *; clear hx hy hz; go_enter Tryz.func109, Tryz.ntmps109; go_wp2_with fail
  go_loopg [7] 3 (fun g0 i wr => ∃ k : Nat, i = .int .i64 k ∧ k ≤ 3 ∧ g0 = 3 - k ∧ w = wr)
  case atStart => exact ⟨0, rfl, by omega, rfl, rfl⟩
  case round =>
    obtain ⟨k, rfl, hk, rfl, rfl⟩ := hrel; have hc : k = 0 ∨ k = 1 ∨ k = 2 ∨ k = 3 := by omega
    clear hk; rcases hc with rfl | rfl | rfl | rfl
    · go_wp2_with (go_at_call 101; refine (h1 _).mono ?_; rintro e w' ⟨rfl, rfl⟩)
      go_roundg 2
      case rel => exact ⟨1, rfl, by omega, by omega, rfl⟩
      case measure => omega
    · go_wp2_with (go_at_call 101; refine (h2 _).mono ?_; rintro e w' ⟨rfl, rfl⟩)
      go_roundg 1
      case rel => exact ⟨2, rfl, by omega, by omega, rfl⟩
      case measure => omega
    · go_wp2_with (go_at_call 101; refine (h3 _).mono ?_; rintro e w' ⟨rfl, rfl⟩)
      go_roundg 0
      case rel => exact ⟨3, rfl, by omega, by omega, rfl⟩
      case measure => omega
    · go_wp2_with fail; go_ret; exact ⟨rfl, rfl⟩
theorem less_mx : fLess 4697254411347427328 0 = false := by decide +kernel
theorem notNan_0 : fNan 0 = false := by decide +kernel
theorem notNan_mx : fNan 4697254411347427328 = false := by decide +kernel
set_option maxRecDepth 100000 in
set_option maxHeartbeats 1600000 in
theorem real_Clamp (x : Nat) (w : World) (hx : fNan x = false) :
    Calls Tryz.prog 68 #[.float .f64 x, .float .f64 0, .float .f64 4697254411347427328] w fun e w' => e = .returned (.float .f64 (clampM x)) ∧ Keep [] w w' := by
  have h1 := real_Less 4697254411347427328 0; rw [less_mx] at h1; have h2 := real_Less x 0; have h3 := real_Less 4697254411347427328 x; have HR : Hid (clampM x = _) := Lib.hid (show clampM x = if fLess x 0 then 0 else if fLess 4697254411347427328 x then 4697254411347427328 else x from rfl); have HN := Lib.hid (fun g w' c0 c1 c2 => real_isNumber g x 0 4697254411347427328 w' hx notNan_0 notNan_mx c0 c1 c2); have M0 : Hid (Mem w w []) := Lib.hid (Mem.nil w); clear hx; have MB := M0.out.allocA [.float .f64 x, .float .f64 0, .float .f64 4697254411347427328] #[.float .f64 x, .float .f64 0, .float .f64 4697254411347427328] rfl 45; have HC := Lib.hid (HN.out _ _ (MB.get 0 rfl 0 rfl) (MB.get 0 rfl 1 rfl) (MB.get 0 rfl 2 rfl)); have KB := Lib.hid MB.kp; clear MB M0 HN; cases hl : fLess x 0 <;> cases hm : fLess 4697254411347427328 x
  all_goals
    rw [hl] at h2 HR; rw [hm] at h3 HR; go_enter Tryz.func68, Tryz.ntmps68
    go_wp2_with (first | (go_at_call 109; refine HC.out.mono ?_; rintro e w' ⟨rfl, rfl⟩) | (go_at_call 110; with_reducible refine (h1 _).mono ?_; rintro e w' ⟨rfl, rfl⟩) | (go_at_call 110; with_reducible refine (h2 _).mono ?_; rintro e w' ⟨rfl, rfl⟩) | (go_at_call 110; with_reducible refine (h3 _).mono ?_; rintro e w' ⟨rfl, rfl⟩) | fail); go_ret; exact ⟨by rw [HR.out]; rfl, KB.out⟩
theorem clamp_notNan {y : Nat} (hy : fNan y = false) : fNan (clampM y) = false := by
  unfold clampM
  split
  · exact notNan_0
  · split
    · exact notNan_mx
    · exact hy
theorem wait_no {b : Nat} {t : Int} (h : goodSp b = false ∨ t < 1 ∨ fZero b = true) : waitM b t = 0 := by unfold waitM; rw [if_pos h]
theorem wait_yes {b : Nat} {t : Int} (h1 : goodSp b = true) (h2 : 1 ≤ t) (h3 : fZero b = false) : waitM b t = intM (ceilM (clampM (ldexpM b (min t 60 - 1)))) := by
  unfold waitM; rw [if_neg (by rw [h1, h3]; simp; omega)]
set_option maxRecDepth 100000 in
set_option maxHeartbeats 4000000 in
theorem term_Wait (b : Nat) (t : Int) (hb : b < 18446744073709551616) (w : World) :
    Calls Tryz.prog 31 #[.float .f64 b, .int .i64 t] w fun e w' => e = .returned (.int .i64 (waitM b t)) ∧ Keep [] w w' := by
  have hg := term_Good b; have e1 : (FloatKind.f64.format.order b 0 == some .eq) = fZero b := rfl
  cases h1 : goodSp b with
  | false =>
    have HR := Lib.hid (wait_no (t := t) (.inl h1)); rw [h1] at hg; clear e1 hb; go_enter Tryz.func31, Tryz.ntmps31; go_wp2_with (go_at_call 59; refine (hg _).mono ?_; rintro e w' ⟨rfl, rfl⟩); go_ret; exact ⟨by rw [HR.out]; rfl, Keep.refl _ _⟩
  | true =>
    rw [h1] at hg; by_cases h2 : t < 1
    · have HR := Lib.hid (wait_no (b := b) (.inr (.inl h2))); clear e1 hb; go_enter Tryz.func31, Tryz.ntmps31; go_wp2_with (go_at_call 59; refine (hg _).mono ?_; rintro e w' ⟨rfl, rfl⟩); go_ret; exact ⟨by rw [HR.out]; rfl, Keep.refl _ _⟩
    · cases h3 : fZero b with
      | true =>
        have HR := Lib.hid (wait_no (t := t) (.inr (.inr h3))); rw [h3] at e1; clear hb; go_enter Tryz.func31, Tryz.ntmps31; go_wp2_with (go_at_call 59; refine (hg _).mono ?_; rintro e w' ⟨rfl, rfl⟩); go_ret; exact ⟨by rw [HR.out]; rfl, Keep.refl _ _⟩
      | false =>
        rw [h3] at e1; have HR := Lib.hid (wait_yes h1 (show 1 ≤ t by omega) h3); have hn := good_notNan h1; obtain ⟨n, hnn⟩ : ∃ n, min t 60 - 1 = n := ⟨_, rfl⟩
        rw [hnn] at HR; have hn0 : 0 ≤ n ∧ n ≤ 60 := by omega
        have HM := Lib.hid hnn; obtain ⟨y1, y2⟩ := ldexp_ok hb hn n; have hL := fun w' => math_Ldexp b n w' hn0 hb h3 hn
        have HI := (wait_int (n := n) hb hn).1; have hC := fun w' => real_Clamp (ldexpM b n) w' y1
        have hE := fun w' => math_Ceil (clampM (ldexpM b n)) (clamp_notNan y1) w'
        have hV := run_convert_float_int (P := Tryz.prog) (w := w); generalize ldexpM b n = y at *; generalize clampM y = z at *; generalize ceilM z = u at *; have hcv := fun w' => run_convert_float_int (P := Tryz.prog) w' 45 3 .f64 .i64 u _ (by kernel_rfl) Tryz.underlying3 HI
        clear HI hV y2 hb h1 h3 hn y1 hnn; have hmin : min t 60 = n + 1 := by have := HM.out; omega
        clear HM; go_enter Tryz.func31, Tryz.ntmps31
        go_wp2_with (first | (go_at_call 59; refine (hg _).mono ?_; rintro e w' ⟨rfl, rfl⟩) | (go_at_call 67; refine (hL _).mono ?_; rintro e w' ⟨rfl, rfl⟩) | (go_at_call 68; refine (hC _).mono ?_; rintro e wk ⟨rfl, kk⟩; have KK := Lib.hid kk; clear kk) | (go_at_call 66; refine (hE _).mono ?_; rintro e w' ⟨rfl, rfl⟩) | fail); go_ret; exact ⟨by rw [HR.out]; rfl, KK.out⟩
end Go.Proofs.YtlhnjkekjbbhcaaGreatDoor
