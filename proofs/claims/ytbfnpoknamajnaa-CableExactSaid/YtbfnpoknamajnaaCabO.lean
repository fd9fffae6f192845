/- The statement CableOnce: its acts as they are read, and its function, which answers true for every input. No conditions. -/
import Derived.Test.YtbfnpoknamajnaaCabP
import Derived.Test.YtbfnpoknamajnaaRead
namespace Go.Proofs.Ytbfnpoknamajnaa
open Go.RowKit Go.ChangeShapes Go.WideShapes

structure Act23 where
  kind : Int
  i : Int
  n : Int
  s : ByteArray
  deriving Inhabited
def Act23.cells (a : Act23) : List Value := [.int .i64 a.kind, .int .i64 a.i, .int .i64 a.n, .string a.s]
theorem Act23.cells_length (a : Act23) : a.cells.length = 4 := rfl
def Act23.good (a : Act23) : Prop := in64 a.kind ∧ in64 a.i ∧ in64 a.n ∧ a.s.size ≤ maxLen

theorem act23_cells : Try.prog.cellsOf 31 = 4 := by kernel_rfl
theorem int_cells : Try.prog.cellsOf 3 = 1 := by kernel_rfl
theorem string_cells : Try.prog.cellsOf 9 = 1 := by kernel_rfl

theorem read_act23 {H : Type} {enc : TypeId × Value → H} {w : World} {base : Nat} {spare : Nat → Bool} {held : Bool} (m : Nat) (cs : List Value) (x : DataW H × List MemPlace)
    (h : DataW.trod enc Try.prog w base spare held m 31 cs = some x) : ∃ a : Act23, cs = a.cells ∧ a.good := by
  obtain ⟨hl, n, hf⟩ := trod_fields Try.underlying31 h
  rw [act23_cells] at hl
  obtain ⟨y0, h0⟩ := hf 0 _ rfl
  obtain ⟨y1, h1⟩ := hf 1 _ rfl
  obtain ⟨y2, h2⟩ := hf 2 _ rfl
  obtain ⟨y3, h3⟩ := hf 3 _ rfl
  obtain ⟨v0, c0, w0⟩ := field_int Try.underlying3 int_cells h0
  obtain ⟨v1, c1, w1⟩ := field_int Try.underlying3 int_cells h1
  obtain ⟨v2, c2, w2⟩ := field_int Try.underlying3 int_cells h2
  obtain ⟨v3, c3, w3⟩ := field_string Try.underlying9 string_cells h3
  refine ⟨⟨v0, v1, v2, v3⟩, list_eq_of hl rfl ?_, in64_of w0, in64_of w1, in64_of w2, w3⟩
  intro i hi
  match i, hi with
  | 0, _ => exact c0
  | 1, _ => exact c1
  | 2, _ => exact c2
  | 3, _ => exact c3


def Once (k : Nat) (L : List Cab) (O : List Int) : Prop :=
  L.length = k ∧ O.length = 8 ∧ ∀ (p : Nat) (c : Cab), L[p]? = some c → ∃ o : Int, O[p]? = some o ∧ 0 ≤ o ∧ o ≤ 150 ∧ (c.busy = true → (o == 0) = false ∧ c.owner = o - 1) ∧ (c.busy = false → o = 0)

theorem once_init (k : Nat) (hk : k ≤ 8) : Once k (List.replicate k Cab.zero) [0, 0, 0, 0, 0, 0, 0, 0] := by
  refine ⟨by simp, rfl, ?_⟩
  intro p c hp
  have hlt := lt_of_get hp
  simp at hlt
  simp [List.getElem?_replicate, hlt] at hp
  subst hp
  have : p < 8 := by omega
  match p, this with
  | 0, _ | 1, _ | 2, _ | 3, _ | 4, _ | 5, _ | 6, _ | 7, _ => exact ⟨0, rfl, by omega, by omega, by simp [Cab.zero], fun _ => rfl⟩
theorem once_set {k : Nat} {L : List Cab} {O : List Int} (h : Once k L O) (hk : k ≤ 8) (p : Nat) (hp : p < k) (c : Cab) (o : Int) (h0 : 0 ≤ o) (h1 : o ≤ 150) (hb : c.busy = true → (o == 0) = false ∧ c.owner = o - 1) (hf : c.busy = false → o = 0) : Once k (L.set p c) (O.set p o) := by
  obtain ⟨hL, hO, hx⟩ := h
  refine ⟨by simpa using hL, by simpa using hO, ?_⟩
  intro q d hq
  by_cases e : p = q
  · subst e
    have hl : p < L.length := by omega
    simp [hl] at hq
    subst hq
    exact ⟨o, by simp [show p < O.length by omega], h0, h1, hb, hf⟩
  · rw [List.getElem?_set_ne e] at hq
    rw [List.getElem?_set_ne e]
    exact hx q d hq

set_option maxRecDepth 100000 in
set_option maxHeartbeats 2000000 in
theorem cableOnce_walk (n : Int) (v : Value) (acts : List Act23) (w : World) (hn : in64 n) (hv : Sl Act23.cells 4 w v acts) (hg : ∀ x ∈ acts, x.good) :
    Calls Try.prog 3 #[.int .i64 n, v] w fun e w' => e = .returned (.bool true) ∧ Below w.heap.size w w' := by
  obtain ⟨m, hm, em⟩ := u64_mod n 8 (by omega)
  replace em : (IntKind.u64.wrap n).tmod 8 = (m : Int) := em
  obtain ⟨va, vcap, rfl, hvl⟩ := hv.shape
  have hvl' : acts.length ≤ 9223372036854775807 := hvl
  have Hg := Lib.hid hg
  clear hg hvl
  go_enter Try.func3, Try.ntmps3
  go_wp2_with fail
  refine (cable_awake _).mono ?_
  rintro e w0 ⟨rfl, hk0⟩
  go_wp2_with fail
  refine (cable_New _ _ (by omega) (by omega)).mono ?_
  rintro e w1 ⟨b, bl, rfl, hc1, hb, hbl, hk1⟩
  rw [show (1 + (m : Int)).toNat = m + 1 by omega] at hc1
  go_wp2_with fail
  have hnewO := Blk.newA w1 #[.int .i64 0, .int .i64 0, .int .i64 0, .int .i64 0, .int .i64 0, .int .i64 0, .int .i64 0, .int .i64 0] 29
  have hcA := hc1.keep ((Keep.refl [] w1).alloc (.cells #[.int .i64 0, .int .i64 0, .int .i64 0, .int .i64 0, .int .i64 0, .int .i64 0, .int .i64 0, .int .i64 0] 29)) (by simp) (by simp)
  have hkA : Keep [] w (w1.alloc (.cells #[.int .i64 0, .int .i64 0, .int .i64 0, .int .i64 0, .int .i64 0, .int .i64 0, .int .i64 0, .int .i64 0] 29)) := (hk0.trans hk1).alloc _
  have hblA := hkA.below (by simp)
  have hlb := hc1.head.lt
  have hlbl := hc1.body.lt
  have hne := hc1.ne
  have hszA : w.heap.size ≤ w1.heap.size := Nat.le_trans hk0.size hk1.size
  have hb' : w.heap.size ≤ b := Nat.le_trans hk0.size hb
  have hbl' : w.heap.size ≤ bl := Nat.le_trans hk0.size hbl
  generalize ho : w1.heap.size = o at hnewO hlb hlbl hszA
  clear hc1 hb hbl hk0 hk1 hkA
  go_loopw [9, 10] (fun c i wr => ∃ (t : Nat) (L : List Cab) (O : List Int), i = .int .i64 t ∧ t ≤ acts.length ∧ t ≤ 150 ∧ c = .int .i64 (L.countP (·.busy) : Nat) ∧ Once (m + 1) L O ∧ Cabs wr b bl L ∧ Blk wr o 29 (O.map (.int .i64)) ∧ Below w.heap.size w wr) (fun _ i _ => acts.length - (intOf i).toNat)
  case atStart =>
    refine ⟨0, List.replicate (m + 1) Cab.zero, [0, 0, 0, 0, 0, 0, 0, 0], rfl, Nat.zero_le _, by omega, ?_, once_init _ (by omega), hcA, hnewO, hblA⟩
    rw [List.countP_replicate]
    rfl
  case round =>
    obtain ⟨t, L, O, rfl, ht, ht2, rfl, hO, hc, hbo, hbel⟩ := hrel
    by_cases hlt : t < acts.length
    · by_cases h150 : t < 150
      · have hx : acts[t]? = some acts[t] := List.getElem?_eq_getElem hlt
        have hgx := Hg.out _ (List.getElem_mem hlt)
        have hsl := hv.below Act23.cells_length hbel (Nat.le_refl _)
        obtain ⟨ba, off, cap', hve, _, _, hcell⟩ := hsl.cell hx
        obtain ⟨rfl, _, rfl⟩ : va = some ⟨ba, off, none⟩ ∧ True ∧ vcap = cap' := by simpa using hve
        generalize acts[t] = x at hx hgx hcell
        have x0 := hcell 0 (by omega)
        have x1 := hcell 1 (by omega)
        have x2 := hcell 2 (by omega)
        have x3 := hcell 3 (by omega)
        simp only [Act23.cells, List.getElem?_cons_zero, List.getElem?_cons_succ, Nat.add_zero] at x0 x1 x2 x3
        clear hcell hve hsl hx
        have hcL : L.countP (·.busy) ≤ m + 1 := by rw [← hO.1]; exact List.countP_le_length
        have hs0 := hbel.size
        cases hk : (x.kind == 1) with
        | true =>
          go_wp2_with fail
          by_cases hfull : L.countP (·.busy) = L.length
          · refine (cable_Take_full b bl L t _ (hc.alloc _) (by omega) (all_of_countP _ _ hfull)).mono ?_
            rintro e w3 ⟨rfl, hk3⟩
            have hge : (1 : Int) + m ≤ (L.countP (·.busy) : Nat) := by have := hO.1; omega
            have hc3 := (hc.alloc (.cells #[.int .i64 x.kind, .int .i64 x.i, .int .i64 x.n, .string x.s] 31)).keep hk3 (by simp) (by simp)
            have hb3 := hk3.blk (hbo.alloc _) (by simp)
            have hbel3 := below_keep (hbel.alloc hs0 _) hk3 (by simp; omega) (by simp)
            clear hfull hk3
            go_wp2_with fail
            go_roundw
            case rel => exact ⟨t + 1, L, O, by go_num, by omega, by omega, rfl, hO, hc3, hb3, hbel3⟩
            case measure => simp [intOf]; omega
          · obtain ⟨j, c, hj, hbz, hall⟩ := first_no (·.busy) L (by have : L.countP (·.busy) ≤ L.length := List.countP_le_length; omega)
            refine (cable_Take b bl L t _ (hc.alloc _) (by omega) j c hj hbz hall).mono ?_
            rintro e w3 ⟨rfl, hc3, hk3⟩
            have hjl := lt_of_get hj
            obtain ⟨q, hq, _, _, _, hq0⟩ := hO.2.2 j c hj
            obtain rfl := hq0 hbz
            have hltk : ((L.countP (·.busy) : Nat) : Int) < 1 + m := by have := hO.1; have : L.countP (·.busy) ≤ L.length := List.countP_le_length; omega
            have hjm : j < m + 1 := by have := hO.1; omega
            have hob : o ≠ bl := by omega
            have hb3 := hk3.blk (hbo.alloc _) (by simpa using hob)
            have d0 : w3.cell? ⟨o, j, none⟩ = some (.int .i64 0) := hb3.get (by simp [hq])
            have f3 := hb3.frozen
            have hcount := countP_set (·.busy) L j c { c.ready with busy := true, owner := (t : Int) } hj
            simp only [hbz] at hcount
            have hcount' : (L.set j { c.ready with busy := true, owner := (t : Int) }).countP (·.busy) = L.countP (·.busy) + 1 := by simpa using hcount
            have Hc := Lib.hid hcount'
            have hOn := once_set hO (by omega) j hjm { c.ready with busy := true, owner := (t : Int) } ((t : Int) + 1) (by omega) (by omega) (fun _ => ⟨by simp; omega, by simp⟩) (by simp)
            have hbel3 := below_keep (hbel.alloc hs0 (.cells #[.int .i64 x.kind, .int .i64 x.i, .int .i64 x.n, .string x.s] 31)) hk3 (by simp; omega) (by simpa using hbl')
            have hj8 : j < 8 := by omega
            have hbo8 : O.length = 8 := hO.2.1
            have hS := Lib.hid hb3
            clear hcount hcount' hq hfull hbz hk3 hO hbo hb3 hall hj hc
            go_wp2_with fail
            go_roundw
            case rel =>
              refine ⟨t + 1, _, _, by go_num, by omega, by omega, ?_, hOn, ?_, ?_, ?_⟩
              · rw [Hc.out]; go_num
              · exact hc3.setOther (by simp; omega) (by simp; omega) _
              · have := hS.out.set j (.int .i64 ((t : Int) + 1))
                rw [List.map_set]
                exact this
              · exact hbel3.setCell (by simp; omega) _
            case measure => simp [intOf]; omega
        | false =>
          obtain ⟨p, hp, ep⟩ := u64_mod x.i (m + 1) (by omega)
          replace ep : (IntKind.u64.wrap x.i).tmod (1 + (m : Int)) = (p : Int) := by rw [← ep]; congr 1; omega
          have hpl : p < L.length := by have := hO.1; omega
          obtain ⟨c, hg⟩ : ∃ c, L[p]? = some c := ⟨_, List.getElem?_eq_getElem hpl⟩
          obtain ⟨q, hq, hq0, hq150, hqb, hqf⟩ := hO.2.2 p c hg
          have hb0 := (hbo.alloc (.cells #[.int .i64 x.kind, .int .i64 x.i, .int .i64 x.n, .string x.s] 31))
          have hc0 := (hc.alloc (.cells #[.int .i64 x.kind, .int .i64 x.i, .int .i64 x.n, .string x.s] 31))
          have hbel0 := hbel.alloc hs0 (.cells #[.int .i64 x.kind, .int .i64 x.i, .int .i64 x.n, .string x.s] 31)
          have hor := hbo.lt
          have hrl := hc.head.lt
          have hrl2 := hc.body.lt
          go_wp2_with fail
          refine (cable_Owner_yes b bl L p _ hc0 (by omega) (by omega) c (by simpa using hg)).mono ?_
          rintro e w3 ⟨rfl, hk3⟩
          have hb3 := hk3.blk hb0 (by simp)
          have hc3 := hc0.keep hk3 (by simp) (by simp)
          have hbel3 := below_keep hbel0 hk3 (by simp; omega) (by simp)
          have d0 : w3.cell? ⟨o, p, none⟩ = some (.int .i64 q) := hb3.get (by simp [hq])
          have f3 := hb3.frozen
          have x3' : w3.cell? ⟨wr.heap.size, 2, none⟩ = some (.int .i64 x.n) := (hk3.cell (p := ⟨wr.heap.size, 2, none⟩) (by simp) (by simp)).trans (by simp)
          have hp8 : p < 8 := by omega
          have hbo8 : O.length = 8 := hO.2.1
          have hqv := Lib.hid hq
          have Hqb := Lib.hid hqb
          have Hqf := Lib.hid hqf
          have hor3 : o < w3.heap.size := hb3.lt
          have hsz3 : w.heap.size ≤ w3.heap.size := hbel3.size
          clear hq hqb hqf hb0 hc0 hbel0 hbo hc hbel hk3
          cases hbz : c.busy with
          | true =>
            obtain ⟨hqn, hown⟩ := Hqb.out hbz
            have hbz' := Lib.hid hbz
            have hpos : 1 ≤ q := by simp at hqn; omega
            have hqn2 : (q != 0) = true := by simp; omega
            have hcount := countP_set (·.busy) L p c (c.freed (x.n.tmod 2 == 0)) hg
            rw [hbz, Cab.freed_busy] at hcount
            have hcount' : (L.set p (c.freed (x.n.tmod 2 == 0))).countP (·.busy) + 1 = L.countP (·.busy) := by simpa using hcount
            have Hc := Lib.hid hcount'
            have h1c : 1 ≤ L.countP (·.busy) := by omega
            have hOn := once_set hO (by omega) p hp (c.freed (x.n.tmod 2 == 0)) 0 (by omega) (by omega) (fun h => by rw [Cab.freed_busy] at h; cases h) (fun _ => rfl)
            have Hown := Lib.hid hown
            have hoq : (c.owner != q - 1) = false := by rw [hown]; simp
            clear hcount hcount' hown hO
            go_wp2_with fail
            refine (cable_Free_busy b bl L p (x.n.tmod 2 == 0) _ (hc3.setOther (a := ⟨o, p, none⟩) (by simp; omega) (by simp; omega) (.int .i64 0)) (by omega) (by omega) c (by simpa using hg) hbz'.out).mono ?_
            rintro e w4 ⟨rfl, hc4, hk4⟩
            have hb4 := hk4.blk (hb3.set p (.int .i64 0)) (by simp; omega)
            have hbel4 := below_keep (hbel3.setCell (p := ⟨o, p, none⟩) (by simp; omega) (.int .i64 0)) hk4 (by simp; omega) (by simpa using hbl')
            clear hk4 hc3 hb3 hbel3
            go_wp2_with fail
            go_roundw
            case rel =>
              refine ⟨t + 1, _, _, by go_num, by omega, by omega, ?_, hOn, by simpa using hc4, ?_, hbel4⟩
              · rw [← Hc.out]; go_num
              · rw [List.map_set]; exact hb4
            case measure => simp [intOf]; omega
          | false =>
            obtain rfl := Hqf.out hbz
            have hbz' := Lib.hid hbz
            have hOn := once_set hO (by omega) p hp c 0 (by omega) (by omega) (fun h => by rw [hbz'.out] at h; cases h) (fun _ => rfl)
            have hsame := list_set_self L p c hg
            rw [hsame] at hOn
            clear hO hsame
            go_wp2_with fail
            refine (cable_Free_idle b bl L p (x.n.tmod 2 == 0) _ (hc3.setOther (a := ⟨o, p, none⟩) (by simp; omega) (by simp; omega) (.int .i64 0)) (by omega) (by omega) c (by simpa using hg) hbz'.out).mono ?_
            rintro e w4 ⟨rfl, hk4⟩
            have hb4 := hk4.blk (hb3.set p (.int .i64 0)) (by simp)
            have hc4 := (hc3.setOther (a := ⟨o, p, none⟩) (by simp; omega) (by simp; omega) (.int .i64 0)).keep hk4 (by simp) (by simp)
            have hbel4 := below_keep (hbel3.setCell (p := ⟨o, p, none⟩) (by simp; omega) (.int .i64 0)) hk4 (by simp; omega) (by simp)
            clear hk4 hc3 hb3 hbel3
            go_wp2_with fail
            go_roundw
            case rel =>
              refine ⟨t + 1, _, _, by go_num, by omega, by omega, rfl, hOn, hc4, ?_, hbel4⟩
              rw [List.map_set]; exact hb4
            case measure => simp [intOf]; omega
      · go_wp2_with fail
        go_ret
        exact ⟨rfl, hbel⟩
    · go_wp2_with fail
      go_ret
      exact ⟨rfl, hbel⟩
end Go.Proofs.Ytbfnpoknamajnaa
