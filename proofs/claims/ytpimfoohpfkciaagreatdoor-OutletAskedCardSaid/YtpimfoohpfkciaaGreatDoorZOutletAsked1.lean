/- Parts of the proof of OutletAsked, in order. No conditions but those that each theorem states. -/
import Derived.Test.YtpimfoohpfkciaaGreatDoorZB5
import Derived.Deep.DeepHandedRow
import Derived.OpenShut
/- Layer 10: the first look that the statements take: it answers true. No conditions. -/
namespace Go.Proofs.YtpimfoohpfkciaaGreatDoor
open Go.RowKit Go.Shelf

theorem aw_p1 : parseV [72, 111, 115, 116, 58, 32, 97, 32, 98, 32] = ⟨[72, 111, 115, 116], [97, 32, 98]⟩ := by decide +kernel
theorem aw_e1 : parseE [72, 111, 115, 116, 58, 32, 97, 32, 98, 32] = 0 := by decide +kernel
theorem aw_p2 : parseV [72, 111, 115, 116, 32, 58, 32, 97] = ⟨[], []⟩ := by decide +kernel
theorem aw_e2 : parseE [72, 111, 115, 116, 32, 58, 32, 97] = 3 := by decide +kernel
theorem aw_els : elsM [⟨[88], [97, 44, 32, 34, 98, 44, 99, 34, 32, 44, 44, 100]⟩] [120] = [[97], [34, 98, 44, 99, 34], [100]] := by decide +kernel
theorem aw_s1 : splitM [71, 69, 84, 32, 47, 32, 72, 84, 84, 80, 47, 49, 46, 49, 13, 10, 65, 58, 32, 49, 13, 10, 13, 10, 114, 101, 115, 116] = ⟨[71, 69, 84, 32, 47, 32, 72, 84, 84, 80, 47, 49, 46, 49], [⟨[65], [49]⟩], 24, 0⟩ := by kernel_rfl
theorem aw_s2 : splitM [71, 69, 84, 32, 47, 13, 10, 65, 58, 32, 49, 13, 10, 13] = ⟨[], [], 0, 17⟩ := by kernel_rfl

/-- a slice over a block that is known -/
theorem Blk.sl {α : Type} {enc : α → List Value} {n : Nat} (hn : ∀ x, (enc x).length = n) {w : World} {b : Nat} {T : TypeId} {L : List α} (h : Blk w b T (rows enc L)) {l cap : Nat} (hl : l = L.length) (hc : l ≤ cap) (hm : cap ≤ maxLen) : Sl enc n w (.slice (some ⟨b, 0, none⟩) l cap) L := by
  subst hl
  exact .inr ⟨b, 0, cap, rfl, hc, hm, fun i x hx k hk => by rw [Nat.zero_add, h.cell, rows_get' hn L i k x hx hk]⟩
theorem parse_is {l n v : List UInt8} {k : Int} {w w1 : World} (hm : ML w) (hk : Keep [] w w1) (hl : l.length < 4294967281) (hv : parseV l = ⟨n, v⟩) (he : parseE l = k) :
    Calls Tryz.prog 100 #[.string (S l)] w1 fun e w' => e = .returned (.tuple #[.agg #[.string (S n), .string (S v)], .int .i64 k]) ∧ Keep [] w1 w' := by
  have h := field_Parse l w1 (hm.keep hk (by simp)) hl
  rw [hv, he] at h
  exact h
theorem split_is {l : List UInt8} {r : Rd} {w w1 : World} (hm : ML w) (hk : Keep [] w w1) (hl : l.length ≤ 1048576) (hv : splitM l = r) :
    Calls Tryz.prog 36 #[.string (S l)] w1 (SplitOut w1 r) := by
  have h := field_Split l w1 (hm.keep hk (by simp)) hl
  rw [hv] at h
  exact h

end Go.Proofs.YtpimfoohpfkciaaGreatDoor

/- How fields that come in are read; the worlds that meet the rows' conditions. No conditions. -/
namespace Go.Proofs.YtpimfoohpfkciaaGreatDoor
open Go.RowKit Go.ChangeShapes Go.WideShapes

theorem fld_cells : Tryz.prog.cellsOf 40 = 2 := by kernel_rfl
theorem str_cells : Tryz.prog.cellsOf 9 = 1 := by kernel_rfl
def Fld.good (f : Fld) : Prop := f.name.length ≤ maxLen ∧ f.value.length ≤ maxLen
theorem read_fld {H : Type} {enc : TypeId × Value → H} {w : World} {base : Nat} {spare : Nat → Bool} {held : Bool} (m : Nat) (cs : List Value) (x : DataW H × List MemPlace)
    (h : DataW.trod enc Tryz.prog w base spare held m 40 cs = some x) : ∃ a : Fld, cs = a.cells ∧ a.good := by
  obtain ⟨hl, n, hf⟩ := trod_fields Tryz.underlying40 h
  rw [fld_cells] at hl
  obtain ⟨y0, h0⟩ := hf 0 _ rfl
  obtain ⟨y1, h1⟩ := hf 1 _ rfl
  obtain ⟨v0, c0, w0⟩ := field_string Tryz.underlying9 str_cells h0
  obtain ⟨v1, c1, w1⟩ := field_string Tryz.underlying9 str_cells h1
  refine ⟨⟨v0.data.toList, v1.data.toList⟩, list_eq_of hl rfl ?_, by rw [← Lib.size_eq]; exact w0, by rw [← Lib.size_eq]; exact w1⟩
  intro i hi
  simp only [Fld.cells, S_of]
  match i, hi with
  | 0, _ => exact c0
  | 1, _ => exact c1
/-- a struct that comes in by value -/
theorem read_agg {H : Type} {enc : TypeId × Value → H} {P : Program} {w : World} {base : Nat} {spare : Nat → Bool} {held : Bool} {α : Type} {en : α → List Value} {good : α → Prop}
    {t : TypeId} {v : Value} {d : DataW H} {ps : List MemPlace} (one : ∀ (m : Nat) (cs : List Value) (x : DataW H × List MemPlace), DataW.trod enc P w base spare held m t cs = some x → ∃ a, cs = en a ∧ good a)
    (h : DataW.Trod enc P w base spare held t v d ps) (hv : ∃ cs, v = .agg cs ∧ cs.size = P.cellsOf t) : ∃ a, v = .agg (en a).toArray ∧ good a := by
  obtain ⟨fuel, hf⟩ := h
  obtain ⟨cs, rfl, _⟩ := hv
  obtain ⟨a, ha, hg⟩ := one _ _ _ hf
  exact ⟨a, by rw [← ha]; simp [Value.cells], hg⟩

theorem Calls.below {P : Program} {f : FuncId} {args : Array Value} {w : World} {v : Value} (h : Calls P f args w fun e w' => e = .returned v ∧ Keep [] w w') : Calls P f args w fun e w' => e = .returned v ∧ Below w.heap.size w w' :=
  h.mono fun _ _ h => ⟨h.1, h.2.below (by simp)⟩
theorem ML.shape {W : World} (h : W.ShapedOpen Tryz.prog) : ML W :=
  Go.Proofs.cell_of_shapedOpen_int (zero := #[.int .i64 0]) (t := 3) h (of_decide_eq_true (by kernel_rfl)) (by kernel_rfl) rfl (by kernel_rfl) (by kernel_rfl) Tryz.underlying3

/-- a datum's cells -/
def flatD : Nat → DataW Unit → List Value
  | 0, _ => []
  | n + 1, .agg l => l.flatMap (flatD n)
  | _ + 1, .lit (.int k z) => [.int k z]
  | _ + 1, .lit (.bool b) => [.bool b]
  | _ + 1, .lit (.string s) => [.string ⟨s.toArray⟩]
  | _ + 1, _ => []
/-- the listed variables hold what is listed -/
noncomputable def laidHeap (l : List (String × DataW Unit)) (h : Array Obj) : Array Obj :=
  l.foldl (fun h x => match Tryz.prog.globalNamed x.1 with
    | some g => h.modify g fun
      | .cells _ t fr => .cells (flatD 6 x.2).toArray t fr
      | o => o
    | none => h) h
noncomputable def laidWorld (os : Os) (l : List (String × DataW Unit)) : World :=
  { World.holding Tryz.prog os ⟨#[], #[], []⟩ with heap := laidHeap l (World.holding Tryz.prog os ⟨#[], #[], []⟩).heap }
end Go.Proofs.YtpimfoohpfkciaaGreatDoor

/- Layer 12: Line, of a text of whatever length. No conditions. -/
namespace Go.Proofs.YtpimfoohpfkciaaGreatDoor
open Go.RowKit Go.Shelf

theorem index_one (c : UInt8) : ∀ l : List UInt8, Lib.index l [c] = Lib.indexByte l c
  | [] => rfl
  | b :: l => by
    unfold Lib.index Lib.indexByte
    rw [index_one c l]
    have : ([c] : List UInt8).isPrefixOf (b :: l) = (b == c) := by
      show (c == b && true) = (b == c)
      rw [Bool.and_true, Bool.eq_iff_iff]
      simp only [beq_iff_eq]
      exact eq_comm
    rw [this]
theorem indexByte_self (c : UInt8) : Lib.indexByte [c] c = 0 := by unfold Lib.indexByte; simp
theorem indexByte_m1 (c : UInt8) : ∀ l : List UInt8, -1 ≤ Lib.indexByte l c
  | [] => by unfold Lib.indexByte; omega
  | b :: l => by
    have := indexByte_m1 c l
    unfold Lib.indexByte
    split
    · omega
    · split <;> omega
theorem indexByte_in (c : UInt8) : ∀ l : List UInt8, Lib.indexByte l c < 0 ∨ ∃ k : Nat, Lib.indexByte l c = (k : Nat) ∧ k < l.length
  | [] => .inl (by unfold Lib.indexByte; omega)
  | b :: l => by
    have h1 := indexByte_m1 c l
    unfold Lib.indexByte
    split
    · exact .inr ⟨0, rfl, by simp⟩
    · rcases indexByte_in c l with h | ⟨k, h, hk⟩
      · rw [show Lib.indexByte l c = -1 by omega]
        exact .inl (by decide)
      · rw [h, if_neg (by simp <;> omega)]
        exact .inr ⟨k + 1, by omega, Nat.succ_lt_succ hk⟩
set_option maxRecDepth 100000 in
set_option maxHeartbeats 2000000 in
theorem slite_Index32 (l : List UInt8) (w : World) (_hl : l.length ≤ 9223372036854775807) :
    Calls Tryz.prog 78 #[.string (S l), .string ⟨#[32]⟩] w fun e w' => e = .returned (.int .i64 (Lib.indexByte l 32)) ∧ w = w' := by
  have HI := Lib.hid (show Calls Tryz.prog 94 #[.string (S l), .int .u8 32] w fun e w' => e = .returned (.int .i64 (Lib.indexByte l 32)) ∧ w' = w from by
    have := Tryz.stringslite_IndexByte (S l) 32 w
    rw [S_list] at this
    exact this)
  have s0 := S_size l
  have tl := S_toList l
  by_cases h1 : l = [32]
  · have HE := Lib.hid (show Lib.indexByte l 32 = 0 by rw [h1]; exact indexByte_self 32)
    have t1 : (([32] : List UInt8) == l) = true := by rw [h1]; rfl
    have t2 : (l == ([32] : List UInt8)) = true := by rw [h1]; rfl
    clear HI h1
    go_enter Tryz.func78, Tryz.ntmps78
    go_wp2_with fail
    go_ret
    exact ⟨by rw [HE.out]; rfl, rfl⟩
  · have t1 : (([32] : List UInt8) == l) = false := by simp; intro hh; exact h1 hh.symm
    have t2 : (l == ([32] : List UInt8)) = false := by simp [h1]
    clear h1
    go_enter Tryz.func78, Tryz.ntmps78
    go_wp2_with fail
    refine HI.out.mono ?_
    rintro e w1 ⟨rfl, rfl⟩
    go_wp2_with fail
    go_ret
    exact ⟨rfl, rfl⟩
set_option maxRecDepth 100000 in
set_option maxHeartbeats 2000000 in
theorem slite_Cut32 (l : List UInt8) (w : World) (hl : l.length ≤ 9223372036854775807) :
    Calls Tryz.prog 61 #[.string (S l), .string ⟨#[32]⟩] w fun e w' => e = .returned (.tuple #[.string (S (Lib.cut l [32]).1), .string (S (Lib.cut l [32]).2.1), .bool (Lib.cut l [32]).2.2]) ∧ Keep [] w w' := by
  have HI := Lib.hid (slite_Index32 l w hl)
  have hc : Lib.cut l [32] = if 0 ≤ Lib.indexByte l 32 then (l.take (Lib.indexByte l 32).toNat, l.drop ((Lib.indexByte l 32).toNat + 1), true) else (l, [], false) := by unfold Lib.cut; rw [index_one]; rfl
  have s0 := S_size l
  rcases indexByte_in 32 l with h | ⟨k, h, hk⟩
  · rw [if_neg (by omega)] at hc
    have HC := Lib.hid hc
    generalize Lib.indexByte l 32 = i at HI h
    have q : decide (i ≥ 0) = false := by simp; omega
    clear hc h
    go_enter Tryz.func61, Tryz.ntmps61
    go_wp2_with fail
    refine HI.out.mono ?_
    rintro e w1 ⟨rfl, rfl⟩
    go_wp2_with fail
    go_ret3
    exact ⟨by rw [HC.out]; rfl, Keep.refl _ _⟩
  · rw [h, if_pos (by omega), Int.toNat_natCast] at hc
    rw [h] at HI
    have HC := Lib.hid hc
    have q : decide ((k : Int) ≥ 0) = true := by simp
    have hx1 : (S l).extract 0 k = S (l.take k) := by rw [S_extract, List.drop_zero]
    have hx2 : (S l).extract (k + 1) l.length = S (l.drop (k + 1)) := by rw [S_extract, List.take_length]
    have wk := IntWalk.i64_in ((k : Int) + 1) (by omega)
    have i0 : (0 : Int) ≤ (k : Int) := by omega
    have i1 : (k : Int) ≤ (l.length : Int) := by omega
    have i2 : (0 : Int) ≤ (k : Int) + 1 := by omega
    have i3 : (k : Int) + 1 ≤ (l.length : Int) := by omega
    have i4 : ((k : Int) + 1).toNat = k + 1 := by omega
    clear hc h
    go_enter Tryz.func61, Tryz.ntmps61
    go_wp2_with fail
    refine HI.out.mono ?_
    rintro e w1 ⟨rfl, rfl⟩
    go_wp2_with fail
    go_quiet (fail)
    go_wp2_with fail
    go_ret3
    rw [HC.out]
    exact ⟨rfl, (Keep.refl _ _).drewN _⟩
set_option maxRecDepth 100000 in
set_option maxHeartbeats 2000000 in
theorem strings_Cut32 (l : List UInt8) (w : World) (hl : l.length ≤ 9223372036854775807) :
    Calls Tryz.prog 32 #[.string (S l), .string ⟨#[32]⟩] w fun e w' => e = .returned (.tuple #[.string (S (Lib.cut l [32]).1), .string (S (Lib.cut l [32]).2.1), .bool (Lib.cut l [32]).2.2]) ∧ Keep [] w w' := by
  have HI := Lib.hid (slite_Cut32 l w hl)
  generalize Lib.cut l [32] = c at HI
  obtain ⟨a, b, d⟩ := c
  dsimp only at HI ⊢
  go_enter Tryz.func32, Tryz.ntmps32
  go_wp2_with fail
  refine HI.out.mono ?_
  rintro e w1 ⟨rfl, k1⟩
  go_wp2_with fail
  go_ret3
  exact ⟨rfl, k1⟩
set_option maxRecDepth 100000 in
set_option maxHeartbeats 2000000 in
theorem inlet_LineL (l : List UInt8) (w : World) (hl : l.length ≤ 9223372036854775807) :
    Calls Tryz.prog 16 #[.string (S l)] w fun e w' => e = .returned (lnM l).out ∧ Keep [] w w' := by
  have hC1 : Calls Tryz.prog 32 #[.string (S l), .string ⟨#[32]⟩] w fun e w' => e = .returned (.tuple #[.string (S (Lib.cut l [32]).1), .string (S (Lib.cut l [32]).2.1), .bool (Lib.cut l [32]).2.2]) ∧ Keep [] w w' := strings_Cut32 l w hl
  have hl1 := cut_len l [32]
  have hno := ln_no (l := l)
  have hyes := ln_yes (l := l)
  generalize lnM l = R at *
  generalize Lib.cut l [32] = c1 at *
  obtain ⟨xm, r, ok1⟩ := c1
  dsimp only at *
  have hC2 := fun w1 (_ : Keep [] w w1) => show Calls Tryz.prog 32 #[.string (S r), .string ⟨#[32]⟩] w1 fun e w' => e = .returned (.tuple #[.string (S (Lib.cut r [32]).1), .string (S (Lib.cut r [32]).2.1), .bool (Lib.cut r [32]).2.2]) ∧ Keep [] w1 w' from strings_Cut32 r w1 (by omega)
  have hl2 := cut_len r [32]
  generalize Lib.cut r [32] = c2 at *
  obtain ⟨xt, xl, ok2⟩ := c2
  dsimp only at *
  have HT := Lib.hid (fun w' => field_IsToken xm w' (show xm.length ≤ 9223372036854775807 by omega))
  have HG := Lib.hid (fun w' => inlet_isTarget xt w' (show xt.length ≤ 9223372036854775807 by omega))
  have HM := Lib.hid (fun w' => inlet_minor xl w' (show xl.length ≤ 9223372036854775807 by omega))
  have HC1 := Lib.hid hC1
  have HC2 := Lib.hid hC2
  clear hC1 hC2 hl1 hl2
  cases ok1 with
  | false =>
    have HR := Lib.hid (hno rfl)
    clear hno hyes
    go_enter Tryz.func16, Tryz.ntmps16
    go_wp2_with fail
    refine HC1.out.mono ?_
    rintro e w1 ⟨rfl, k1⟩
    go_wp2_with fail
    refine (HC2.out _ k1).mono ?_
    rintro e w2 ⟨rfl, k2⟩
    go_wp2_with fail
    refine bodyPost_ret (res4 rfl _ _ _) rfl ⟨?_, k1.trans k2⟩
    rw [HR.out]
    rfl
  | true =>
    cases ok2 with
    | false =>
      have HR := Lib.hid (hno rfl)
      clear hno hyes
      go_enter Tryz.func16, Tryz.ntmps16
      go_wp2_with fail
      refine HC1.out.mono ?_
      rintro e w1 ⟨rfl, k1⟩
      go_wp2_with fail
      refine (HC2.out _ k1).mono ?_
      rintro e w2 ⟨rfl, k2⟩
      go_wp2_with fail
      refine bodyPost_ret (res4 rfl _ _ _) rfl ⟨?_, k1.trans k2⟩
      rw [HR.out]
      rfl
    | true =>
      cases htk : isTok xm with
      | false =>
        rw [htk] at HT hno
        have HR := Lib.hid (hno rfl)
        clear hno hyes htk
        go_enter Tryz.func16, Tryz.ntmps16
        go_wp2_with fail
        refine HC1.out.mono ?_
        rintro e w1 ⟨rfl, k1⟩
        go_wp2_with fail
        refine (HC2.out _ k1).mono ?_
        rintro e w2 ⟨rfl, k2⟩
        go_wp2_with fail
        refine (HT.out _).mono ?_
        rintro e w3 ⟨rfl, k3⟩
        go_wp2_with fail
        refine bodyPost_ret (res4 rfl _ _ _) rfl ⟨?_, (k1.trans k2).trans k3⟩
        rw [HR.out]
        rfl
      | true =>
        rw [htk] at HT hno hyes
        cases htg : isTgt xt with
        | false =>
          rw [htg] at HG hno
          have HR := Lib.hid (hno rfl)
          clear hno hyes htk htg
          go_enter Tryz.func16, Tryz.ntmps16
          go_wp2_with fail
          refine HC1.out.mono ?_
          rintro e w1 ⟨rfl, k1⟩
          go_wp2_with fail
          refine (HC2.out _ k1).mono ?_
          rintro e w2 ⟨rfl, k2⟩
          go_wp2_with fail
          refine (HT.out _).mono ?_
          rintro e w3 ⟨rfl, k3⟩
          go_wp2_with fail
          refine (HG.out _).mono ?_
          rintro e w4 ⟨rfl, k4⟩
          go_wp2_with fail
          refine bodyPost_ret (res4 rfl _ _ _) rfl ⟨?_, ((k1.trans k2).trans k3).trans k4⟩
          rw [HR.out]
          rfl
        | true =>
          rw [htg] at HG hyes
          have hR := hyes rfl
          clear hno hyes htk htg
          generalize minS xl = ms at *
          generalize minV xl = mv at *
          by_cases h2 : ms = 200
          · rw [if_pos h2] at hR
            have q := (int_eq h2).2
            have HR := Lib.hid hR
            clear hR h2
            go_enter Tryz.func16, Tryz.ntmps16
            go_wp2_with fail
            refine HC1.out.mono ?_
            rintro e w1 ⟨rfl, k1⟩
            go_wp2_with fail
            refine (HC2.out _ k1).mono ?_
            rintro e w2 ⟨rfl, k2⟩
            go_wp2_with fail
            refine (HT.out _).mono ?_
            rintro e w3 ⟨rfl, k3⟩
            go_wp2_with fail
            refine (HG.out _).mono ?_
            rintro e w4 ⟨rfl, k4⟩
            go_wp2_with fail
            refine (HM.out _).mono ?_
            rintro e w5 ⟨rfl, k5⟩
            go_wp2_with fail
            refine bodyPost_ret (res4 rfl _ _ _) rfl ⟨?_, (((k1.trans k2).trans k3).trans k4).trans k5⟩
            rw [HR.out]
            rfl
          · rw [if_neg h2] at hR
            have q := (int_ne h2).2
            have HR := Lib.hid hR
            clear hR h2
            go_enter Tryz.func16, Tryz.ntmps16
            go_wp2_with fail
            refine HC1.out.mono ?_
            rintro e w1 ⟨rfl, k1⟩
            go_wp2_with fail
            refine (HC2.out _ k1).mono ?_
            rintro e w2 ⟨rfl, k2⟩
            go_wp2_with fail
            refine (HT.out _).mono ?_
            rintro e w3 ⟨rfl, k3⟩
            go_wp2_with fail
            refine (HG.out _).mono ?_
            rintro e w4 ⟨rfl, k4⟩
            go_wp2_with fail
            refine (HM.out _).mono ?_
            rintro e w5 ⟨rfl, k5⟩
            go_wp2_with fail
            refine bodyPost_ret (res4 rfl _ _ _) rfl ⟨?_, (((k1.trans k2).trans k3).trans k4).trans k5⟩
            rw [HR.out]
            rfl
end Go.Proofs.YtpimfoohpfkciaaGreatDoor

/- Layer 13: the document's Ask; what the statements are awake to. No conditions but on lengths and the library's table. -/
namespace Go.Proofs.YtpimfoohpfkciaaGreatDoor
open Go.RowKit Go.Shelf

/-- ' HTTP/1.1' -/
def spProt : List UInt8 := [32, 72, 84, 84, 80, 47, 49, 46, 49]
theorem itoa_200 : Lib.itoa 200 = [50, 48, 48] := by
  rw [show (200 : Int) = ((200 : Nat) : Int) from rfl, Lib.itoa_nonneg, dec_big (by omega), show 200 / 10 = 20 from rfl, dec_big (by omega), show 20 / 10 = 2 from rfl, dec_small (by omega)]
  rfl
def fAb : Fld := ⟨[65], [98]⟩
theorem awake13_plain : ansS 200 [fAb] = [72, 84, 84, 80, 47, 49, 46, 49, 32, 50, 48, 48, 32, 79, 75, 13, 10, 65, 58, 32, 98, 13, 10, 13, 10] ∧ ansE 200 [fAb] = 0 ∧
    askS [71, 69, 84] [47, 118, 50, 47] [] = [71, 69, 84, 32, 47, 118, 50, 47, 32, 72, 84, 84, 80, 47, 49, 46, 49, 13, 10, 13, 10] ∧ askE [71, 69, 84] [47, 118, 50, 47] [] = 0 ∧ askE [71, 69, 84] [47, 97, 32, 98] [] = 1 := by
  have h1 : stOf 200 = [72, 84, 84, 80, 47, 49, 46, 49, 32, 50, 48, 48, 32, 79, 75] := by unfold stOf; rw [itoa_200]; rfl
  have h2 : ansE 200 [fAb] = laidE (stOf 200) [fAb] ∧ ansS 200 [fAb] = laidS (stOf 200) [fAb] := ans_yes (by decide)
  rw [h1] at h2
  refine ⟨h2.2.trans ?_, h2.1.trans ?_, ?_, ?_, ?_⟩ <;> decide +kernel

set_option maxRecDepth 100000 in
set_option maxHeartbeats 2000000 in
theorem outlet_awake (w : World) (hm : ML w) (hp : P10 w) : Calls Tryz.prog 12 #[] w fun e w' => e = .returned (.bool true) ∧ Keep [] w w' := by
  obtain ⟨a1, a2, a3, a4, a5⟩ := awake13_plain
  have hb := Blk.newA w #[.string (S [65]), .string (S [98])] 40
  have hk := (Keep.refl [] w).alloc (.cells #[.string (S [65]), .string (S [98])] 40)
  have hsl : Sl Fld.cells 2 (w.alloc (.cells #[.string (S [65]), .string (S [98])] 40)) (.slice (some ⟨w.heap.size, 0, none⟩) 1 1) [fAb] := by
    refine .inr ⟨w.heap.size, 0, 1, rfl, Nat.le_refl _, by decide, fun i x hx k hk2 => ?_⟩
    cases i with
    | zero =>
      simp at hx
      subst hx
      have := hb.cell k
      rw [show 0 + 0 * 2 + k = k by omega]
      exact this
    | succ i => simp at hx
  have hA := outlet_Answer 200 _ [fAb] _ ⟨by omega, by omega⟩ (hp.keep0 hk) hsl (by intro _ x hx; simp at hx; subst hx; decide)
  have hB := fun w' (k : Keep [] w w') => outlet_Ask [71, 69, 84] [47, 118, 50, 47] (.slice none 0 0) [] w' (hm.keep k (by simp)) (by decide) (.inl ⟨none, 0, rfl, by omega, rfl⟩) (by intro _ x hx; cases hx)
  have hC := fun w' (k : Keep [] w w') => outlet_Ask [71, 69, 84] [47, 97, 32, 98] (.slice none 0 0) [] w' (hm.keep k (by simp)) (by decide) (.inl ⟨none, 0, rfl, by omega, rfl⟩) (by intro _ x hx; cases hx)
  rw [a1, a2] at hA
  rw [a3, a4] at hB
  rw [a5] at hC
  generalize askS [71, 69, 84] [47, 97, 32, 98] [] = sc at hC
  have HA := Lib.hid hA
  have HB := Lib.hid hB
  have HC := Lib.hid hC
  have HK := Lib.hid hk
  have HN := Lib.hid (fun w' => outlet_Bodyless 304 false w')
  have HO := Lib.hid (fun w' => outlet_Bodyless 200 false w')
  have t1 := S_toList [72, 84, 84, 80, 47, 49, 46, 49, 32, 50, 48, 48, 32, 79, 75, 13, 10, 65, 58, 32, 98, 13, 10, 13, 10]
  have t2 := S_toList [71, 69, 84, 32, 47, 118, 50, 47, 32, 72, 84, 84, 80, 47, 49, 46, 49, 13, 10, 13, 10]
  unfold fin at HA HB HC
  clear a1 a2 a3 a4 a5 hb hk hsl hA hB hC hm hp
  go_enter Tryz.func12, Tryz.ntmps12
  go_wp2_with fail
  refine HA.out.mono ?_
  rintro e w1 ⟨rfl, k1⟩
  have k1 := HK.out.trans k1
  go_wp2_with fail
  refine (HB.out w1 k1).mono ?_
  rintro e w2 ⟨rfl, k2⟩
  have k2 := k1.trans k2
  clear k1
  go_wp2_with fail
  refine (HC.out w2 k2).mono ?_
  rintro e w3 ⟨rfl, k3⟩
  have k3 := k2.trans k3
  clear k2
  go_wp2_with fail
  refine (HN.out w3).mono ?_
  rintro e w4 ⟨rfl, rfl⟩
  go_wp2_with fail
  refine (HO.out _).mono ?_
  rintro e w5 ⟨rfl, rfl⟩
  go_wp2_with fail
  go_ret
  exact ⟨rfl, k3⟩
end Go.Proofs.YtpimfoohpfkciaaGreatDoor

/- The statement OutletExact: its function answers true for every input. No conditions but on the library's table. -/
namespace Go.Proofs.YtpimfoohpfkciaaGreatDoor
open Go.RowKit Go.Shelf

theorem small_next {L : List Fld} {k n : Nat} {x : Fld} (hx : L[k]? = some x) (h : ∀ y ∈ L.take k, y.name.length ≤ n ∧ y.value.length ≤ n) (h1 : x.name.length ≤ n) (h2 : x.value.length ≤ n) : ∀ y ∈ L.take (k + 1), y.name.length ≤ n ∧ y.value.length ≤ n := by
  have e : L.take (k + 1) = L.take k ++ [x] := by rw [List.take_add_one, hx]; rfl
  rw [e]
  intro y hy
  rcases List.mem_append.1 hy with hy | hy
  · exact h y hy
  · have : y = x := by simpa using hy
    subst this
    exact ⟨h1, h2⟩
def bodyNo (s : Int) : Bool := (decide (100 ≤ s) && decide (s < 200)) || decide (s = 204) || decide (s = 304)

end Go.Proofs.YtpimfoohpfkciaaGreatDoor

/- Layer 13, plain laws: a head that is written is read as it was; a request line that is written is read as it was. No program. No conditions but those that each theorem states. -/
namespace Go.Proofs.YtpimfoohpfkciaaGreatDoor
open Go.RowKit Go.Shelf

theorem laid_ok {st : List UInt8} {L : List Fld} (h : laidE st L = 0) : laidS st L = headT st L ∧ L.length ≤ 32 ∧ (∀ f ∈ L, goodF f = true) ∧ (headT st L).length ≤ 4096 := by
  have hs : laidS st L = headT st L := by unfold laidS; rw [if_pos h]
  unfold laidE at h
  cases hk : laidOk L with
  | false => rw [hk] at h; simp at h
  | true =>
    rw [hk, if_pos rfl] at h
    have hl : (headT st L).length ≤ 4096 := by
      by_cases hl : (headT st L).length ≤ 4096
      · exact hl
      · rw [if_neg hl] at h; simp at h
    unfold laidOk at hk
    simp at hk
    exact ⟨hs, hk.1, hk.2, hl⟩
theorem clean_app {a b : List UInt8} (ha : clean a) (hb : clean b) : clean (a ++ b) := by
  intro x hx
  rcases List.mem_append.1 hx with h | h
  · exact ha x h
  · exact hb x h
theorem clean_ite {c : Prop} [Decidable c] {a b : List UInt8} (ha : clean a) (hb : clean b) : clean (if c then a else b) := by split <;> assumption
theorem reason_clean (s : Int) : clean (reasonM s) := by
  unfold reasonM
  repeat (refine clean_ite (by intro x hx; revert x; decide) ?_)
  intro x hx; revert x; decide
theorem dec_dig {n : Nat} (h1 : 100 ≤ n) (h2 : n ≤ 599) : (Lib.itoa (n : Int)).length = 3 ∧ clean (Lib.itoa (n : Int)) := by
  rw [Lib.itoa_nonneg, dec_big (by omega), dec_big (by omega), dec_small (by omega)]
  refine ⟨rfl, ?_⟩
  intro x hx
  have hd : ∀ y : Nat, y < 10 → UInt8.ofNat (48 + y) ≠ 13 ∧ UInt8.ofNat (48 + y) ≠ 10 := by decide
  rcases List.mem_append.1 hx with hx | hx
  · rcases List.mem_append.1 hx with hx | hx
    · rw [List.mem_singleton.1 hx]; exact hd _ (by omega)
    · rw [List.mem_singleton.1 hx]; exact hd _ (by omega)
  · rw [List.mem_singleton.1 hx]; exact hd _ (by omega)
theorem stOf_ok {s : Int} (h : statOk s = true) : clean (stOf s) ∧ 13 ≤ (stOf s).length ∧ (stOf s).length ≤ 1024 ∧ (stOf s).take 9 = [72, 84, 84, 80, 47, 49, 46, 49, 32] ∧ (stOf s).drop 13 = reasonM s := by
  unfold statOk at h
  simp at h
  obtain ⟨n, rfl⟩ : ∃ n : Nat, s = n := ⟨s.toNat, by omega⟩
  obtain ⟨h3, hc⟩ := dec_dig (n := n) (by omega) (by omega)
  have hr := reason_len (n : Int)
  have hcr := reason_clean (n : Int)
  unfold stOf
  generalize Lib.itoa (n : Int) = d at *
  generalize reasonM (n : Int) = r at *
  have hp : clean protB := by intro x hx; revert x; decide
  have h32 : clean [32] := by intro x hx; revert x; decide
  refine ⟨clean_app (clean_app (clean_app (clean_app hp h32) hc) h32) hcr, by simp [protB]; omega, by simp [protB]; omega, by simp [protB], ?_⟩
  match d, h3 with
  | [a, b, c], _ => rfl
theorem ans_read {s : Int} {L : List Fld} (more : List UInt8) (h : ansE s L = 0) : splitM (ansS s L ++ more) = ⟨stOf s, L, (ansS s L).length, 0⟩ ∧ (ansS s L).length ≤ 4096 ∧ 13 ≤ (stOf s).length ∧ (stOf s).take 9 = [72, 84, 84, 80, 47, 49, 46, 49, 32] ∧ (stOf s).drop 13 = reasonM s := by
  cases hs : statOk s with
  | false => rw [(ans_no (L := L) hs).1] at h; simp at h
  | true =>
    obtain ⟨h1, h2⟩ := ans_yes (L := L) hs
    rw [h1] at h
    obtain ⟨h3, h4, h5, h6⟩ := laid_ok h
    obtain ⟨c1, c2, c3, c4, c5⟩ := stOf_ok hs
    rw [h2, h3]
    exact ⟨split_head _ L more c1 (by intro h0; rw [h0] at c2; simp at c2) c3 h5 h4 h6, h6, c2, c4, c5⟩

theorem sep_inj : ∀ {a b c d : List UInt8}, (32 : UInt8) ∉ a → (32 : UInt8) ∉ b → a ++ 32 :: c = b ++ 32 :: d → a = b ∧ c = d
  | [], [], _, _, _, _, h => ⟨rfl, by simpa using h⟩
  | [], y :: b, _, _, _, hb, h => by
    simp at h
    exact absurd h.1 (by intro e; exact hb (by simp [e]))
  | x :: a, [], _, _, ha, _, h => by
    simp at h
    exact absurd h.1 (by intro e; exact ha (by simp [e]))
  | x :: a, y :: b, _, _, ha, hb, h => by
    simp at h
    obtain ⟨h1, h2⟩ := sep_inj (fun hh => ha (by simp [hh])) (fun hh => hb (by simp [hh])) h.2
    exact ⟨by rw [h.1, h1], h2⟩
theorem tok_no32 {l : List UInt8} (h : isTok l = true) : (32 : UInt8) ∉ l := by
  intro hm
  have := (isTok_parts h).1 32 hm
  revert this
  decide
theorem tgt_no {l : List UInt8} (h : isTgt l = true) : (∀ b ∈ l, 33 ≤ b.toNat ∧ b.toNat ≤ 126) ∧ l ≠ [] := by
  unfold isTgt at h
  simp [tgtB] at h
  exact ⟨h.1, h.2⟩
theorem cut_parts {l : List UInt8} {k : Nat} (h : Lib.indexByte l 32 = (k : Nat)) : l = l.take k ++ 32 :: l.drop (k + 1) := by
  have hk := (Lib.indexByte_some h).1
  obtain ⟨h1, h2⟩ := List.getElem?_eq_some_iff.1 hk
  have := List.drop_eq_getElem_cons h1
  rw [h2] at this
  rw [← this, List.take_append_drop]
theorem ask_read {m t : List UInt8} (h : (lnM (askT m t)).s = 200) : lnM (askT m t) = ⟨m, t, 1, 200⟩ ∧ isTok m = true ∧ isTgt t = true := by
  have hbad : (lnBad).s ≠ 200 := by decide
  have hdef : askT m t = (m ++ 32 :: t) ++ 32 :: protB := by unfold askT; simp
  have hge := Lib.indexByte_ge (askT m t) 32
  by_cases hk : Lib.indexByte (askT m t) 32 = -1
  · rw [ln_k hk] at h; exact absurd h hbad
  obtain ⟨k, hk'⟩ : ∃ k : Nat, Lib.indexByte (askT m t) 32 = k := ⟨(Lib.indexByte (askT m t) 32).toNat, by omega⟩
  cases ht : isTok ((askT m t).take k) with
  | false => rw [ln_tok hk' ht] at h; exact absurd h hbad
  | true =>
  have hp1 := cut_parts hk'
  have hge2 := Lib.indexByte_ge ((askT m t).drop (k + 1)) 32
  by_cases hn : Lib.indexByte ((askT m t).drop (k + 1)) 32 = -1
  · rw [ln_n hk' hn] at h; exact absurd h hbad
  obtain ⟨n, hn'⟩ : ∃ n : Nat, Lib.indexByte ((askT m t).drop (k + 1)) 32 = n := ⟨(Lib.indexByte ((askT m t).drop (k + 1)) 32).toNat, by omega⟩
  cases hg : isTgt (((askT m t).drop (k + 1)).take n) with
  | false => rw [ln_tgt hk' hn' hg] at h; exact absurd h hbad
  | true =>
  have hp2 := cut_parts hn'
  have hall := ln_all hk' hn' ht hg
  by_cases hl : (((askT m t).drop (k + 1)).drop (n + 1)).length ≠ 8
  · rw [ln_min hk' hn' (min_len hl)] at h; exact absurd h hbad
  have hl8 : (((askT m t).drop (k + 1)).drop (n + 1)).length = 8 := by omega
  rw [hp2] at hp1
  rw [hall] at h ⊢
  generalize ((askT m t).drop (k + 1)).drop (n + 1) = last at *
  generalize ((askT m t).drop (k + 1)).take n = b at *
  generalize (askT m t).take k = a at *
  have he : (m ++ 32 :: t) ++ 32 :: protB = (a ++ 32 :: b) ++ 32 :: last := by rw [← hdef, hp1]; simp
  obtain ⟨e1, e2⟩ := List.append_inj' he (by simp [protB, hl8])
  have e3 : protB = last := by simpa using e2
  have na := tok_no32 ht
  have nb : (32 : UInt8) ∉ b := fun hb => by have := (tgt_no hg).1 32 hb; revert this; decide
  have hc := congrArg (List.count (32 : UInt8)) e1
  rw [List.count_append, List.count_append, List.count_cons_self, List.count_cons_self, List.count_eq_zero.2 na, List.count_eq_zero.2 nb] at hc
  have nm : (32 : UInt8) ∉ m := List.count_eq_zero.1 (by omega)
  obtain ⟨f1, f2⟩ := sep_inj nm na e1
  subst f1 f2 e3
  have hs : minS protB = 200 := by decide
  rw [if_pos hs]
  exact ⟨by rw [show minV protB = 1 from by decide], ht, hg⟩
theorem askE_read {m t : List UInt8} {L : List Fld} (more : List UInt8) (h : askE m t L = 0) : splitM (askS m t L ++ more) = ⟨askT m t, L, (askS m t L).length, 0⟩ ∧ (askS m t L).length ≤ 4096 ∧ (askT m t).length ≤ 1024 ∧ lnM (askT m t) = ⟨m, t, 1, 200⟩ := by
  cases hs : askOk m t with
  | false => rw [(ask_no (L := L) hs).1] at h; simp at h
  | true =>
    obtain ⟨h1, h2⟩ := ask_yes (L := L) hs
    rw [h1] at h
    obtain ⟨h3, h4, h5, h6⟩ := laid_ok h
    unfold askOk at hs
    simp at hs
    obtain ⟨g1, g2, g3⟩ := ask_read hs.1
    rw [h2, h3]
    have hc : clean (askT m t) := by
      have hm : clean m := fun b hb => ⟨(tchar_clean ((isTok_parts g2).1 b hb)).1, (tchar_clean ((isTok_parts g2).1 b hb)).2.1⟩
      have ht : clean t := by
        intro b hb
        have := (tgt_no g3).1 b hb
        refine ⟨?_, ?_⟩ <;> (rintro rfl; revert this; decide)
      have hp : clean protB := by intro x hx; revert x; decide
      have h32 : clean [32] := by intro x hx; revert x; decide
      unfold askT
      exact clean_app (clean_app (clean_app (clean_app hm h32) ht) h32) hp
    exact ⟨split_head _ L more hc (by unfold askT; simp) hs.2 h5 h4 h6, h6, hs.2, g1⟩
end Go.Proofs.YtpimfoohpfkciaaGreatDoor

/- What the row's own reach says of what is read: each string's length. No conditions. -/
namespace Go.Proofs.YtpimfoohpfkciaaGreatDoor
open Go.ChangeShapes Go.WideShapes Go.ChangeAt Go.RowKit

/-- all that lies in a datum takes no more than the reach -/
def Fits {H : Type} (P : Program) (t : TypeId) (d : DataW H) : Prop := (d.weights P t).all (fun k => decide (k ≤ reachBytes)) = true
theorem fits_each {H : Type} {P : Program} : ∀ {ts : List TypeId} {ds : List (DataW H)}, (DataW.weightsEach P ts ds).all (fun k => decide (k ≤ reachBytes)) = true → ∀ (j : Nat) (t : TypeId) (d : DataW H), ts[j]? = some t → ds[j]? = some d → Fits P t d
  | [], _, _, _, _, _, h, _ => by simp at h
  | _ :: _, [], _, _, _, _, _, h => by simp at h
  | t :: ts, d :: ds, h, j, t', d', h1, h2 => by
    rw [DataW.weightsEach, List.all_append, Bool.and_eq_true] at h
    cases j with
    | zero =>
      simp at h1 h2
      subst h1 h2
      exact h.1
    | succ j => exact fits_each h.2 j t' d' (by simpa using h1) (by simpa using h2)
theorem fits_all {H : Type} {P : Program} {e : TypeId} : ∀ {ds : List (DataW H)}, (DataW.weightsAll P e ds).all (fun k => decide (k ≤ reachBytes)) = true → ∀ d ∈ ds, Fits P e d
  | [], _, _, h => by cases h
  | d :: ds, h, x, hx => by
    rw [DataW.weightsAll, List.all_append, Bool.and_eq_true] at h
    rcases List.mem_cons.1 hx with rfl | hx
    · exact h.1
    · exact fits_all h.2 x hx
theorem fits_slice {H : Type} {P : Program} {t e : TypeId} {es rs : List (DataW H)} (ht : P.underlying t = some (.slice e)) (h : Fits P t (.slice es rs)) : ∀ d ∈ es, Fits P e d := by
  unfold Fits at h
  rw [DataW.weights, ht] at h
  simp only [List.all_cons, List.all_append, Bool.and_eq_true] at h
  exact fits_all h.2.1
theorem fits_string {H : Type} {P : Program} {t : TypeId} {l : List UInt8} (h : Fits (H := H) P t (.lit (.string l))) : l.length ≤ 140737488351232 := by
  unfold Fits at h
  rw [DataW.weights] at h
  simp only [List.all_cons, List.all_nil, Bool.and_true, decide_eq_true_eq] at h
  unfold reachBytes at h
  omega
/-- a slice that came in, its elements within the reach -/
theorem read_sliceW {H : Type} {enc : TypeId × Value → H} {P : Program} {w : World} {base : Nat} {spare : Nat → Bool} {held : Bool} {α : Type} [Inhabited α] {en : α → List Value} {n : Nat} (hn : ∀ x, (en x).length = n) (h0 : 0 < n) (good : α → Prop)
    {t e : TypeId} {v : Value} {d : DataW H} {ps : List MemPlace} (ht : P.underlying t = some (.slice e)) (hc : P.cellsOf e = n) (hfit : Fits P t d)
    (one : ∀ (m : Nat) (cs : List Value) (x : DataW H × List MemPlace), DataW.trod enc P w base spare held m e cs = some x → Fits P e x.1 → ∃ a, cs = en a ∧ good a)
    (h : DataW.Trod enc P w base spare held t v d ps) (hv : ∃ a len cap, v = .slice a len cap) : ∃ L : List α, Sl en n w v L ∧ ∀ x ∈ L, good x := by
  obtain ⟨fuel, hf⟩ := h
  obtain ⟨a', len', cap', rfl⟩ := hv
  rcases Deep.open_slice ht hf with ⟨hcs, _⟩ | ⟨a, len, cap, m, q, D, Pl, hcs, _, hl, hm, hmm, hdx, hx⟩
  · simp [Value.cells] at hcs
    obtain ⟨rfl, rfl, rfl⟩ := hcs
    exact ⟨[], .inl ⟨Option.none, 0, rfl, Nat.zero_le _, rfl⟩, by simp⟩
  · simp [Value.cells] at hcs
    obtain ⟨rfl, rfl, rfl⟩ := hcs
    have hlm : len' ≤ m := by rw [hmm]; split <;> omega
    have hd : d = .slice ((List.range len').map D) ((List.range (m - len')).map fun j => D (len' + j)) := by
      have := congrArg Prod.fst hdx
      exact this
    rw [hd] at hfit
    have hfe := fits_slice ht hfit
    obtain ⟨f, hfx⟩ := Deep.choose_lt (α := α) (n := len') (p := fun i y => good y ∧ ∀ k, k < n → w.cell? ((a.add (i * n)).add k) = (en y)[k]?) (fun i hi => by
      obtain ⟨cs', h1, h2⟩ := hx i (by omega)
      rw [hc] at h1
      obtain ⟨y, rfl, hg⟩ := one _ _ _ h2 (hfe (D i) (List.mem_map.2 ⟨i, List.mem_range.2 hi, rfl⟩))
      exact ⟨y, hg, (World.cells?_some h1).2.2⟩)
    by_cases hz : len' = 0
    · subst hz
      exact ⟨[], .inl ⟨_, _, rfl, hm, rfl⟩, by simp⟩
    · obtain ⟨b, off, spot⟩ := a
      have hs : spot = Option.none := by
        have h1 := (hfx 0 (by omega)).2 0 h0
        simp only [Nat.zero_mul, Addr.add, if_true] at h1
        cases spot with
        | none => rfl
        | some s =>
          have hlt : 0 < (en (f 0)).length := by rw [hn]; exact h0
          rw [List.getElem?_eq_getElem hlt] at h1
          unfold World.cell? at h1
          split at h1 <;> simp at h1
      subst hs
      refine ⟨(List.range len').map f, .inr ⟨b, off, cap', by simp, by simpa using hl, hm, ?_⟩, ?_⟩
      · intro i x hi k hk
        simp [List.getElem?_map] at hi
        obtain ⟨j, hj, rfl⟩ := hi
        have hj' := List.getElem?_eq_some_iff.1 hj
        obtain ⟨hlt, he⟩ := hj'
        simp at hlt he
        subst he
        have := (hfx i hlt).2 k hk
        rw [Deep.add_add] at this
        rw [← this]
        unfold Addr.add
        split
        · rename_i hzz
          rw [Nat.add_assoc, hzz]; rfl
        · simp [Nat.add_assoc]
      · intro x hx'
        simp at hx'
        obtain ⟨i, hi, rfl⟩ := hx'
        exact (hfx i hi).1
def Fld.near (f : Fld) : Prop := f.name.length ≤ 140737488351232 ∧ f.value.length ≤ 140737488351232
set_option maxRecDepth 100000 in
theorem read_fldW {H : Type} {enc : TypeId × Value → H} {w : World} {base : Nat} {spare : Nat → Bool} {held : Bool} (m : Nat) (cs : List Value) (x : DataW H × List MemPlace)
    (h : DataW.trod enc Tryz.prog w base spare held m 40 cs = some x) (hf : Fits Tryz.prog 40 x.1) : ∃ a : Fld, cs = a.cells ∧ a.near := by
  obtain ⟨a, h1, _⟩ := read_fld m cs x h
  refine ⟨a, h1, ?_⟩
  obtain ⟨xs, n, _, rfl, hl, hlen, hx⟩ := DataW.trod_struct Tryz.underlying40 h
  have hx0 := hx 0 _ rfl
  have hx1 := hx 1 _ rfl
  have hw : (DataW.weightsEach Tryz.prog [9, 9] (xs.map (·.1))).all (fun k => decide (k ≤ reachBytes)) = true := by
    unfold Fits at hf
    dsimp only at hf
    rw [DataW.weights, Tryz.underlying40] at hf
    exact hf
  have hl2 : xs.length = 2 := hlen
  obtain ⟨y0, e0⟩ : ∃ y, xs[0]? = some y := ⟨_, List.getElem?_eq_getElem (by omega)⟩
  obtain ⟨y1, e1⟩ : ∃ y, xs[1]? = some y := ⟨_, List.getElem?_eq_getElem (by omega)⟩
  rw [e0] at hx0
  rw [e1] at hx1
  obtain ⟨s0, c0, d0, _⟩ := DataW.trod_string Tryz.underlying9 hx0
  obtain ⟨s1, c1, d1, _⟩ := DataW.trod_string Tryz.underlying9 hx1
  have f0 := fits_each hw 0 9 y0.1 rfl (by rw [List.getElem?_map, e0]; rfl)
  have f1 := fits_each hw 1 9 y1.1 rfl (by rw [List.getElem?_map, e1]; rfl)
  rw [d0] at f0
  rw [d1] at f1
  have g0 := fits_string f0
  have g1 := fits_string f1
  rw [h1] at c0 c1
  have k0 : Value.string (S a.name) = .string s0 := by
    have := take_drop_one c0
    simpa [Fld.cells] using this
  have k1 : Value.string (S a.value) = .string s1 := by
    have := take_drop_one c1
    simpa [Fld.cells] using this
  have m0 : S a.name = s0 := by injection k0
  have m1 : S a.value = s1 := by injection k1
  refine ⟨?_, ?_⟩
  · rw [← m0] at g0
    have e : (S a.name).data.toList = a.name := S_list a.name
    rw [e] at g0
    exact g0
  · rw [← m1] at g1
    have e : (S a.value).data.toList = a.value := S_list a.value
    rw [e] at g1
    exact g1
end Go.Proofs.YtpimfoohpfkciaaGreatDoor

/- An argument that is an array of two strings, opened. No conditions. -/
namespace Go.Proofs.YtpimfoohpfkciaaGreatDoor
open Go.ChangeShapes Go.WideShapes Go.ChangeAt Go.RowKit

theorem okWide_arrayS {P : Program} {w : World} {r : Reach} {base : Nat} {t : TypeId} {v : Value} {n : Nat} {e : TypeId} (ht : P.underlying t = some (.array n e)) (h : Value.okWide P w r base t v) : ∃ cs, v = .agg cs ∧ cs.size = P.cellsOf t := by
  simp only [Value.okWide, ht] at h
  obtain ⟨cs, h1, h2, _⟩ := h
  exact ⟨cs, h1, h2⟩
theorem read_arrS {H : Type} {enc : TypeId × Value → H} {P : Program} {w : World} {base : Nat} {spare : Nat → Bool} {held : Bool}
    {t e : TypeId} {v : Value} {d : DataW H} {ps : List MemPlace} (ht : P.underlying t = some (.array 2 e)) (he : P.underlying e = some .string) (hc : P.cellsOf e = 1) (hct : P.cellsOf t = 2)
    (h : DataW.Trod enc P w base spare held t v d ps) (hv : ∃ cs, v = .agg cs ∧ cs.size = P.cellsOf t) : ∃ a b : List UInt8, v = .agg #[.string (S a), .string (S b)] ∧ a.length ≤ maxLen ∧ b.length ≤ maxLen := by
  obtain ⟨fuel, hf⟩ := h
  obtain ⟨cs, rfl, _⟩ := hv
  obtain ⟨xs, m, _, _, hl, hn, hx⟩ := DataW.trod_array ht hf
  have hl' : cs.size = 2 := by simpa [Value.cells, hct] using hl
  obtain ⟨x0, y0⟩ : ∃ x, xs[0]? = some x := ⟨_, List.getElem?_eq_getElem (by omega)⟩
  obtain ⟨x1, y1⟩ : ∃ x, xs[1]? = some x := ⟨_, List.getElem?_eq_getElem (by omega)⟩
  have h0 := hx 0 (by omega)
  have h1 := hx 1 (by omega)
  rw [y0] at h0
  rw [y1] at h1
  obtain ⟨a, c0, _, la⟩ := DataW.trod_string he h0
  obtain ⟨b, c1, _, lb⟩ := DataW.trod_string he h1
  obtain ⟨l⟩ := cs
  rcases l with _ | ⟨p, _ | ⟨q, _ | ⟨s, l⟩⟩⟩
  · simp at hl'
  · simp at hl'
  · simp [Value.cells, hc] at c0 c1
    subst c0
    subst c1
    refine ⟨a.data.toList, b.data.toList, by rw [S_of, S_of], ?_, ?_⟩
    · rw [Array.length_toList]; exact la
    · rw [Array.length_toList]; exact lb
  · simp at hl'
end Go.Proofs.YtpimfoohpfkciaaGreatDoor

/- Layer 13: the statement OutletAsked. No conditions. -/
namespace Go.Proofs.YtpimfoohpfkciaaGreatDoor
open Go.RowKit Go.Shelf Go.ChangeShapes Go.WideShapes Go.ChangeAt

def hostF : Fld := ⟨nHost, [104]⟩
def keepF (f : Fld) : Bool := decide (getN [f] nHost + getN [f] nCL + getN [f] nTE = 0) && decide (f.name.length + f.value.length < 100)
def keptL (L : List Fld) : List Fld := hostF :: L.filter keepF
theorem getN_cons (f : Fld) (L : List Fld) (n : List UInt8) : getN (f :: L) n = getN [f] n + getN L n := by
  unfold getN getS
  rw [List.filter_cons, List.filter_cons]
  split <;> simp <;> omega
theorem getN_kept (n : List UInt8) (h : ∀ f : Fld, keepF f = true → getN [f] n = 0) : ∀ L : List Fld, getN (L.filter keepF) n = 0
  | [] => rfl
  | f :: L => by
    rw [List.filter_cons]
    split
    · rename_i hf
      rw [getN_cons, h f hf, getN_kept n h L]
    · exact getN_kept n h L
theorem keepF_n {f : Fld} (h : keepF f = true) : getN [f] nHost = 0 ∧ getN [f] nCL = 0 ∧ getN [f] nTE = 0 ∧ f.name.length + f.value.length < 100 := by
  unfold keepF at h
  simp only [Bool.and_eq_true, decide_eq_true_eq] at h
  omega
theorem kept_n (L : List Fld) : getN (keptL L) nHost = 1 ∧ getN (keptL L) nCL = 0 ∧ getN (keptL L) nTE = 0 := by
  have h1 := getN_kept nHost (fun f h => (keepF_n h).1) L
  have h2 := getN_kept nCL (fun f h => (keepF_n h).2.1) L
  have h3 := getN_kept nTE (fun f h => (keepF_n h).2.2.1) L
  have e1 : getN [hostF] nHost = 1 := by decide +kernel
  have e2 : getN [hostF] nCL = 0 := by decide +kernel
  have e3 : getN [hostF] nTE = 0 := by decide +kernel
  unfold keptL
  exact ⟨by rw [getN_cons, h1, e1], by rw [getN_cons, h2, e2], by rw [getN_cons, h3, e3]⟩
theorem kept_short (L : List Fld) : ∀ x ∈ keptL L, x.name.length + x.value.length ≤ 1048576 := by
  intro x hx
  rcases List.mem_cons.1 hx with rfl | hx
  · decide
  · have := (keepF_n (List.mem_filter.1 hx).2).2.2.2
    omega
theorem askE_no {m t : List UInt8} {L : List Fld} (h : askE m t L ≠ 0) : askS m t L = [] := by
  unfold askE at h
  unfold askS
  split
  · rename_i h1
    rw [if_pos h1] at h
    unfold laidS
    rw [if_neg h]
  · rfl
/-- a request without a body that was written is read as it was -/
theorem ask_next {m t : List UInt8} {K : List Fld} (h : askE m t K = 0) (h1 : getN K nHost = 1) (h2 : getN K nCL = 0) (h3 : getN K nTE = 0) :
    nextI { in0 with inp := askS m t K } = ⟨in0, ⟨m, t, K, closesM K 1⟩, 200⟩ := by
  obtain ⟨r1, r2, r3, r4⟩ := askE_read [] h
  rw [List.append_nil] at r1
  have hf : frameM K 4096 = ⟨-1, false, 0⟩ := by
    unfold frameM
    rw [h2, h3, if_neg (by omega), if_neg (by omega), if_pos rfl]
  have hH : headM (askS m t K) = ⟨0, true, (askS m t K).length, ⟨m, t, K, closesM K 1⟩, 0, false⟩ := by
    unfold headM
    rw [r1]
    dsimp only
    rw [if_neg (by simp), r4]
    dsimp only
    rw [if_neg (by simp), if_neg (by rw [h1]; omega), hf, if_neg (by simp)]
    rfl
  rw [next_none rfl rfl, show ({ in0 with inp := askS m t K } : InS).inp = askS m t K from rfl, hH]
  dsimp only
  rw [if_neg (by simp), if_pos rfl]
  have hd : headed { in0 with inp := askS m t K } ⟨0, true, (askS m t K).length, ⟨m, t, K, closesM K 1⟩, 0, false⟩ = ⟨[], (askS m t K).length, some ⟨m, t, K, closesM K 1⟩, 0, none, 0⟩ := by
    refine inS_ext ?_ rfl rfl rfl rfl rfl
    show (askS m t K).drop (askS m t K).length = []
    rw [List.drop_length]
  rw [hd, tail_none _ rfl (by simp)]
  exact nxR_ext (inS_ext rfl rfl rfl rfl rfl rfl) rfl rfl
theorem in0_next : nextI in0 = ⟨in0, req0, 0⟩ := by kernel_rfl
set_option maxRecDepth 100000 in
set_option maxHeartbeats 1000000 in
theorem outlet_AskL (m t : List UInt8) (va : Value) (L : List Fld) (w : World) (hl : m.length + t.length ≤ 9223372036854770000) (ha : Sl Fld.cells 2 w va L) (hg : L.length ≤ 32 → ∀ x ∈ L, x.name.length + x.value.length ≤ 1048576) :
    Calls Tryz.prog 14 #[.string (S m), .string (S t), va] w fun e w' => e = .returned (fin (askS m t L) (askE m t L)) ∧ Keep [] w w' := by
  have hst : askT m t = m ++ [32] ++ t ++ [32] ++ protB := rfl
  have hok : askOk m t = (decide ((lnM (askT m t)).s = 200) && decide ((askT m t).length ≤ 1024)) := rfl
  have hno := ask_no (m := m) (t := t) (L := L)
  have hyes := ask_yes (m := m) (t := t) (L := L)
  have hlen : (askT m t).length = m.length + t.length + 10 := by rw [hst]; simp [protB]; omega
  have HLi := Lib.hid (inlet_LineL (askT m t) w (by omega))
  have HL := Lib.hid (fun w' (k : Keep [] w w') (h1024 : (askT m t).length ≤ 1024) => outlet_laid (askT m t) va L w' (ha.keep0 Fld.cells_length (by omega) k) hg (by omega))
  generalize askE m t L = ae at *
  generalize askS m t L = av at *
  generalize askOk m t = ok at *
  generalize askT m t = st at *
  have q1 : S m ++ (⟨#[32]⟩ : ByteArray) = S (m ++ [32]) := S_append _ [32]
  have q2 : S (m ++ [32]) ++ S t = S (m ++ [32] ++ t) := S_append _ _
  have q3 : S (m ++ [32] ++ t) ++ (⟨#[32]⟩ : ByteArray) = S (m ++ [32] ++ t ++ [32]) := S_append _ [32]
  have q4 : S (m ++ [32] ++ t ++ [32]) ++ (⟨#[72, 84, 84, 80, 47, 49, 46, 49]⟩ : ByteArray) = S st := by rw [hst]; exact S_append _ protB
  have t1 : (m ++ [32]).length = m.length + 1 := by simp
  have t2 : (m ++ [32] ++ t).length = m.length + t.length + 1 := by simp; omega
  have t3 : (m ++ [32] ++ t ++ [32]).length = m.length + t.length + 2 := by simp; omega
  generalize m ++ [32] ++ t ++ [32] = x3 at *
  generalize m ++ [32] ++ t = x2 at *
  generalize m ++ [32] = x1 at *
  have s0 := S_size m
  have s1 := S_size t
  have s2 := S_size x1
  have s3 := S_size x2
  have s4 := S_size x3
  have s5 := S_size st
  generalize lnM st = R at *
  obtain ⟨rm, rt, rv, rs⟩ := R
  dsimp only at hok
  unfold Ln.out at HLi
  dsimp only at HLi
  clear ha hg hst
  by_cases h2 : rs = 200
  · have h2' := (int_eq h2).2
    by_cases h3 : st.length ≤ 1024
    · have h3' : decide (((st.length : Nat) : Int) > 1024) = false := by simp; omega
      have HX := Lib.hid (hyes (by rw [hok]; simp [h2, h3]))
      have HL2 := Lib.hid (fun w' k => HL.out w' k h3)
      clear hok hno hyes h2 h3 hlen
      go_enter Tryz.func14, Tryz.ntmps14
      go_wp2_with fail
      refine HLi.out.mono ?_
      rintro e w1 ⟨rfl, k1⟩
      go_wp2_with fail
      refine (HL2.out _ k1).mono ?_
      rintro e w3 ⟨rfl, k3⟩
      unfold fin
      go_wp2_with fail
      go_ret2
      exact ⟨by rw [HX.out.1, HX.out.2]; rfl, k1.trans k3⟩
    · have h3' : decide (((st.length : Nat) : Int) > 1024) = true := by simp; omega
      have HX := Lib.hid (hno (by rw [hok]; simp [h3]))
      clear hok hno hyes h2 h3 hlen
      go_enter Tryz.func14, Tryz.ntmps14
      go_wp2_with fail
      refine HLi.out.mono ?_
      rintro e w1 ⟨rfl, k1⟩
      go_wp2_with fail
      go_ret2
      exact ⟨by rw [HX.out.1, HX.out.2]; rfl, k1⟩
  · have h2' := (int_ne h2).2
    have HX := Lib.hid (hno (by rw [hok]; simp [h2]))
    clear hok hno hyes h2 hlen
    go_enter Tryz.func14, Tryz.ntmps14
    go_wp2_with fail
    refine HLi.out.mono ?_
    rintro e w1 ⟨rfl, k1⟩
    go_wp2_with fail
    go_ret2
    exact ⟨by rw [HX.out.1, HX.out.2]; rfl, k1⟩
/-- an array of two strings that came in, within the reach -/
theorem read_arrSW {H : Type} {enc : TypeId × Value → H} {P : Program} {w : World} {base : Nat} {spare : Nat → Bool} {held : Bool}
    {t e : TypeId} {v : Value} {d : DataW H} {ps : List MemPlace} (ht : P.underlying t = some (.array 2 e)) (he : P.underlying e = some .string) (hc : P.cellsOf e = 1) (hct : P.cellsOf t = 2) (hfit : Fits P t d)
    (h : DataW.Trod enc P w base spare held t v d ps) (hv : ∃ cs, v = .agg cs ∧ cs.size = P.cellsOf t) : ∃ a b : List UInt8, v = .agg #[.string (S a), .string (S b)] ∧ a.length ≤ 140737488351232 ∧ b.length ≤ 140737488351232 := by
  obtain ⟨fuel, hf⟩ := h
  obtain ⟨cs, rfl, _⟩ := hv
  obtain ⟨xs, m, _, hxe, hl, hn, hx⟩ := DataW.trod_array ht hf
  have hl' : cs.size = 2 := by simpa [Value.cells, hct] using hl
  have hd : d = .agg (xs.map (·.1)) := congrArg Prod.fst hxe
  rw [hd] at hfit
  unfold Fits at hfit
  rw [DataW.weights, ht] at hfit
  have hall := fits_all hfit
  obtain ⟨x0, y0⟩ : ∃ x, xs[0]? = some x := ⟨_, List.getElem?_eq_getElem (by omega)⟩
  obtain ⟨x1, y1⟩ : ∃ x, xs[1]? = some x := ⟨_, List.getElem?_eq_getElem (by omega)⟩
  have h0 := hx 0 (by omega)
  have h1 := hx 1 (by omega)
  rw [y0] at h0
  rw [y1] at h1
  have f0 := hall x0.1 (List.mem_map.2 ⟨x0, List.mem_of_getElem? y0, rfl⟩)
  have f1 := hall x1.1 (List.mem_map.2 ⟨x1, List.mem_of_getElem? y1, rfl⟩)
  obtain ⟨a, c0, d0, _⟩ := DataW.trod_string he h0
  obtain ⟨b, c1, d1, _⟩ := DataW.trod_string he h1
  rw [d0] at f0
  rw [d1] at f1
  obtain ⟨l⟩ := cs
  rcases l with _ | ⟨p, _ | ⟨q, _ | ⟨s, l⟩⟩⟩
  · simp at hl'
  · simp at hl'
  · simp [Value.cells, hc] at c0 c1
    subst c0
    subst c1
    exact ⟨a.data.toList, b.data.toList, by rw [S_of, S_of], fits_string f0, fits_string f1⟩
  · simp at hl'
/-- '[]Field{f}' -/
theorem own_field {base : Nat} (w : World) (f : Fld) (hb : base ≤ w.heap.size) : Own Fld.cells 2 base 40 (w.alloc (.cells #[.string (S f.name), .string (S f.value)] 40)) (.slice (some ⟨w.heap.size, 0, Option.none⟩) 1 1) [f] :=
  ⟨rfl, .inr ⟨w.heap.size, 1, #[.string (S f.name), .string (S f.value)], rfl, hb, heap_alloc_new w _, Nat.le_refl _, by decide, rfl, rfl⟩⟩
end Go.Proofs.YtpimfoohpfkciaaGreatDoor

/- Layer 13: the walk of OutletAsked. No conditions. -/
namespace Go.Proofs.YtpimfoohpfkciaaGreatDoor
open Go.RowKit Go.Shelf

def encP (p : List UInt8 × List UInt8) : List Value := [.string (S p.1), .string (S p.2)]
theorem encP_len (p : List UInt8 × List UInt8) : (encP p).length = 2 := rfl
theorem own_box (w : World) (p : List UInt8 × List UInt8) : Own encP 2 w.heap.size 38 (w.alloc (.cells #[.string (S p.1), .string (S p.2)] 38)) (.slice (some ⟨w.heap.size, 0, Option.none⟩) 1 1) [p] :=
  ⟨rfl, .inr ⟨w.heap.size, 1, #[.string (S p.1), .string (S p.2)], rfl, Nat.le_refl _, heap_alloc_new w _, Nat.le_refl _, by decide, rfl, rfl⟩⟩
theorem box_at {w : World} {B nb : Nat} {p : List UInt8 × List UInt8} (h : Own encP 2 B 38 w (.slice (some ⟨nb, 0, Option.none⟩) 1 1) [p]) : w.cell? ⟨nb, 0, Option.none⟩ = some (.string (S p.1)) ∧ w.cell? ⟨nb, 1, Option.none⟩ = some (.string (S p.2)) := by
  obtain ⟨b, o, c, e, _, _, hc⟩ := (h.sl encP_len).cell (i := 0) rfl
  simp only [Value.slice.injEq, Option.some.injEq, Addr.mk.injEq] at e
  obtain ⟨⟨rfl, rfl, _⟩, _, rfl⟩ := e
  have h0 := hc 0 (by omega)
  have h1 := hc 1 (by omega)
  exact ⟨by simpa [encP] using h0, by simpa [encP] using h1⟩
/-- a slice of one field, just made, out of the walk's own spelling -/
theorem one_fieldA (w : World) (f : Fld) : Sl Fld.cells 2 (w.alloc (.cells #[.string (S f.name), .string (S f.value)] 40)) (.slice (some ⟨w.heap.size, 0, Option.none⟩) 1 1) [f] := (own_field (base := 0) w f (Nat.zero_le _)).sl Fld.cells_length
theorem getN_one (f : Fld) (n : List UInt8) : getN [f] n ≤ 1 := getN_le [f] n
theorem kept_take {L : List Fld} {k : Nat} {x : Fld} (h : L[k]? = some x) : keptL (L.take (k + 1)) = if keepF x then keptL (L.take k) ++ [x] else keptL (L.take k) := by
  have e : L.take (k + 1) = L.take k ++ [x] := by rw [List.take_add_one, h]; rfl
  unfold keptL
  rw [e, List.filter_append, List.filter_cons]
  split <;> simp
set_option maxRecDepth 100000 in
set_option maxHeartbeats 16000000 in
theorem outletAsked_walk (a b : List UInt8) (va : Value) (L : List Fld) (w : World) (hm : ML w) (h10 : P10 w) (ha : a.length ≤ 140737488351232) (hb : b.length ≤ 140737488351232) (hv : Sl Fld.cells 2 w va L) (hg : ∀ x ∈ L, x.near) :
    Calls Tryz.prog 4 #[.agg #[.string (S a), .string (S b)], va] w fun e w' => e = .returned (.bool true) ∧ Keep [] w w' := by
  obtain ⟨aa, ca, rfl, hal⟩ := hv.shape
  have hal' : L.length ≤ 9223372036854775807 := hal
  have hbig := hm.lt
  obtain ⟨i0, HI⟩ := fldinfo'
  have kA := (Keep.refl [] w).alloc (.cells #[.string (S a), .string (S b)] 38)
  have bA : Own encP 2 w.heap.size 38 (w.alloc (.cells #[.string (S a), .string (S b)] 38)) (.slice (some ⟨w.heap.size, 0, Option.none⟩) 1 1) [(a, b)] := own_box w (a, b)
  generalize hwA : w.alloc (.cells #[.string (S a), .string (S b)] 38) = wA at kA bA
  have HAw := Lib.hid (outlet_awake wA (hm.keep kA (by simp)) (h10.keep0 kA))
  have KA := Lib.hid kA
  have BA := Lib.hid bA
  have HM := Lib.hid hm
  by_cases hl : 30 < L.length
  · have q : decide ((L.length : Int) > 30) = true := by simp; omega
    clear hl hm h10 kA bA hg hv
    go_enter Tryz.func4, Tryz.ntmps4
    go_wp2_with fail
    refine HAw.out.mono ?_
    rintro e w1 ⟨rfl, k1⟩
    have K1 := Lib.hid (KA.out.trans k1)
    clear k1
    go_wp2_with fail
    go_ret
    exact ⟨rfl, K1.out⟩
  have q : decide ((L.length : Int) > 30) = false := by simp; omega
  have hl2 : L.length ≤ 30 := by omega
  have HV := Lib.hid hv
  have HG := Lib.hid hg
  have HG0 := Lib.hid (fun w' (x : Fld) (hx : x ∈ L) => field_Get _ [x] nHost _ (one_fieldA w' x) (by intro y hy; have h9 : y = x := (by simpa using hy); have := (hg x hx).1; rw [h9]; unfold maxLen; omega) (by decide))
  have HG1 := Lib.hid (fun w' (x : Fld) (hx : x ∈ L) => field_Get _ [x] nCL _ (one_fieldA w' x) (by intro y hy; have h9 : y = x := (by simpa using hy); have := (hg x hx).1; rw [h9]; unfold maxLen; omega) (by decide))
  have HG2 := Lib.hid (fun w' (x : Fld) (hx : x ∈ L) => field_Get _ [x] nTE _ (one_fieldA w' x) (by intro y hy; have h9 : y = x := (by simpa using hy); have := (hg x hx).1; rw [h9]; unfold maxLen; omega) (by decide))
  unfold GetOut at HG0 HG1 HG2
  clear hl hm h10 kA bA hg hv
  go_enter Tryz.func4, Tryz.ntmps4
  go_wp2_with fail
  refine HAw.out.mono ?_
  rintro e w1 ⟨rfl, k1⟩
  have K1 := KA.out.trans k1
  have oB := own_field w1 hostF K1.size
  have kB := (Keep.refl [] w1).alloc (.cells #[.string (S hostF.name), .string (S hostF.value)] 40)
  generalize hwB : w1.alloc (.cells #[.string ⟨#[72, 111, 115, 116]⟩, .string ⟨#[104]⟩] 40) = wB
  have hwB' : w1.alloc (.cells #[.string (S hostF.name), .string (S hostF.value)] 40) = wB := hwB
  rw [hwB'] at oB kB
  have HO := Lib.hid (show Own Fld.cells 2 w.heap.size 40 wB (.slice (some ⟨w1.heap.size, 0, Option.none⟩) 1 1) (keptL (L.take 0)) from by rw [List.take_zero]; exact oB)
  have HK := Lib.hid (K1.trans kB)
  have BB := Lib.hid ((BA.out.keep0 k1).keep0 kB)
  have HSP := Lib.hid (show Sep (.slice (some ⟨w1.heap.size, 0, Option.none⟩) 1 1) (.slice (some ⟨w.heap.size, 0, Option.none⟩) 1 1) from Sep.symm (Sep.fresh (BA.out.keep0 k1) (Nat.le_refl _) 1 1))
  clear k1 K1 oB kB hwB' HAw BA
  go_wp2_with fail
  try rw [hwB]
  clear hwB hwA
  go_loopg [5, 6] L.length (fun g kv iv wr => ∃ (k : Nat) (v : Value), kv = v ∧ iv = .int .i64 (k : Nat) ∧ k ≤ L.length ∧ g = L.length - k ∧ Hid (Own Fld.cells 2 w.heap.size 40 wr v (keptL (L.take k))) ∧ Hid (Keep [] w wr) ∧ Hid (Own encP 2 w.heap.size 38 wr (.slice (some ⟨w.heap.size, 0, Option.none⟩) 1 1) [(a, b)] ∧ (keptL (L.take k)).length ≤ k + 1 ∧ Sep v (.slice (some ⟨w.heap.size, 0, Option.none⟩) 1 1)))
  case atStart => exact ⟨0, _, rfl, rfl, by omega, rfl, HO, HK, Lib.hid ⟨BB.out, by simp [keptL], HSP.out⟩⟩
  case round =>
    obtain ⟨k, v, hvs, rfl, hk, hgm, HO, HK, HB⟩ := hrel
    have hvs2 := hvs.symm
    clear hvs
    subst hvs2
    obtain ⟨sa, sc, rfl, _⟩ := HO.out.shape
    have wk := IntWalk.i64_in ((k : Int) + 1) (by omega)
    by_cases hlt : k < L.length
    · obtain ⟨x, hx⟩ : ∃ x, L[k]? = some x := ⟨_, List.getElem?_eq_getElem hlt⟩
      have hmem := List.mem_of_getElem? hx
      obtain ⟨x1, x2⟩ := HG.out x hmem
      obtain ⟨ba, oa, ca', hva, _, hca, hcell⟩ := HV.out.cell hx
      cases hva
      have hc0 := hcell 0 (by omega)
      have hc1 := hcell 1 (by omega)
      simp only [Fld.cells, List.getElem?_cons_zero, List.getElem?_cons_succ, Nat.add_zero] at hc0 hc1
      have A0 := Lib.hid hc0
      have A1 := Lib.hid hc1
      have HE := Lib.hid (kept_take hx)
      have h1 := Lib.hid (HG0.out wr x hmem)
      have G1 := Lib.hid (fun w' => HG1.out w' x hmem)
      have G2 := Lib.hid (fun w' => HG2.out w' x hmem)
      have s1 := S_size x.name
      have s2 := S_size x.value
      have b1 := getN_one x nHost
      have b2 := getN_one x nCL
      have b3 := getN_one x nTE
      have hkf : keepF x = (decide (getN [x] nHost + getN [x] nCL + getN [x] nTE = 0) && decide (x.name.length + x.value.length < 100)) := rfl
      generalize getN [x] nHost = m1 at *
      generalize getN [x] nCL = m2 at *
      generalize getN [x] nTE = m3 at *
      have c0 := HK.out.load A0.out
      have c1 := HK.out.load A1.out
      clear hcell hx hca hc0 hc1 hmem
      go_wp2_with fail
      refine h1.out.mono ?_
      rintro e w2 ⟨rfl, k2⟩
      have K2 := Lib.hid (((Keep.refl [] wr).alloc _).trans k2)
      have h2 := Lib.hid (G1.out w2)
      have c0 := (HK.out.trans K2.out).load A0.out
      have c1 := (HK.out.trans K2.out).load A1.out
      clear k2 h1
      go_wp2_with fail
      refine h2.out.mono ?_
      rintro e w3 ⟨rfl, k3⟩
      have K3 := Lib.hid ((K2.out.alloc _).trans k3)
      have h3 := Lib.hid (G2.out w3)
      have c0 := (HK.out.trans K3.out).load A0.out
      have c1 := (HK.out.trans K3.out).load A1.out
      clear k3 h2 K2
      go_wp2_with fail
      refine h3.out.mono ?_
      rintro e w4 ⟨rfl, k4⟩
      have K4 := Lib.hid ((K3.out.alloc _).trans k4)
      have c0 := (HK.out.trans K4.out).load A0.out
      have c1 := (HK.out.trans K4.out).load A1.out
      have w12 := IntWalk.i64_in ((m1 : Int) + (m2 : Int)) (by omega)
      have w123 := IntWalk.i64_in ((m1 : Int) + (m2 : Int) + (m3 : Int)) (by omega)
      have wnv := IntWalk.i64_in ((x.name.length : Int) + (x.value.length : Int)) (by omega)
      have HX1 := Lib.hid x1
      have HX2 := Lib.hid x2
      clear k4 h3 K3 G1 G2
      by_cases hz : m1 + m2 + m3 = 0
      case neg =>
        have q3 : (((m1 : Int) + (m2 : Int) + (m3 : Int)) == 0) = false := by simp; omega
        have HN := Lib.hid (show keptL (L.take (k + 1)) = keptL (L.take k) from by rw [HE.out, hkf, decide_eq_false hz]; rfl)
        have HBL := Lib.hid (show (keptL (L.take (k + 1))).length ≤ k + 1 + 1 from by rw [HN.out]; have := HB.out.2.1; omega)
        clear hz hkf
        go_wp2_with fail
        go_quiet (fail)
        go_wp2_with fail
        go_roundg (L.length - (k + 1))
        case measure => omega
        case rel => exact ⟨k + 1, _, rfl, by go_num, by omega, rfl, Lib.hid (by rw [HN.out]; exact (HO.out.keep0 K4.out).keep0 ((Keep.refl _ _).drewN _)), Lib.hid ((HK.out.trans K4.out).drewN _), Lib.hid ⟨(HB.out.1.keep0 K4.out).keep0 ((Keep.refl _ _).drewN _), HBL.out, HB.out.2.2⟩⟩
      have q3 : (((m1 : Int) + (m2 : Int) + (m3 : Int)) == 0) = true := by simp; omega
      by_cases hs : x.name.length + x.value.length < 100
      case neg =>
        have q4 : decide ((x.name.length : Int) + (x.value.length : Int) < 100) = false := by simp; omega
        have HN := Lib.hid (show keptL (L.take (k + 1)) = keptL (L.take k) from by rw [HE.out, hkf, decide_eq_false hs, Bool.and_false]; rfl)
        have HBL := Lib.hid (show (keptL (L.take (k + 1))).length ≤ k + 1 + 1 from by rw [HN.out]; have := HB.out.2.1; omega)
        clear hz hkf hs
        go_wp2_with fail
        go_quiet (fail)
        go_wp2_with fail
        go_roundg (L.length - (k + 1))
        case measure => omega
        case rel => exact ⟨k + 1, _, rfl, by go_num, by omega, rfl, Lib.hid (by rw [HN.out]; exact (HO.out.keep0 K4.out).keep0 ((Keep.refl _ _).drewN _)), Lib.hid ((HK.out.trans K4.out).drewN _), Lib.hid ⟨(HB.out.1.keep0 K4.out).keep0 ((Keep.refl _ _).drewN _), HBL.out, HB.out.2.2⟩⟩
      have q4 : decide ((x.name.length : Int) + (x.value.length : Int) < 100) = true := by simp; omega
      have HN := Lib.hid (show keptL (L.take (k + 1)) = keptL (L.take k) ++ [x] from by rw [HE.out, hkf, decide_eq_true hs, decide_eq_true hz]; rfl)
      have hlen := HB.out.2.1
      clear hz hkf hs
      go_wp2_with fail
      go_quiet (fail)
      generalize hw5 : w4.drewN _ = w5
      have K5 := Lib.hid (show Keep [] wr w5 from by rw [← hw5]; exact K4.out.drewN _)
      have c0 := (HK.out.trans K5.out).load A0.out
      have c1 := (HK.out.trans K5.out).load A1.out
      have HO5 := Lib.hid (HO.out.keep0 K5.out)
      have HB5 := Lib.hid (HB.out.1.keep0 K5.out)
      have HK5 := Lib.hid (HK.out.trans K5.out)
      have HSp := Lib.hid HB.out.2.2
      clear hw5 K4 HO HB HK
      go_wp2_with (first
        | (at_builtin; go_must (refine wpList_append2 rfl _ _ 28 rfl i0 (.agg #[.string ⟨#[]⟩, .string ⟨#[]⟩]) 32 Tryz.underlying28 HI rfl (by decide) Fld.cells_length Fld.one w w5 rfl HK5.out (by rfl) HO5.out x _ rfl _ rfl (by unfold maxLen; omega) (by omega) ?_); intro v' w6 hown' hk6 hside)
        | fail)
      have h5 := hside HB5.out HSp.out
      have HBL := Lib.hid (show (keptL (L.take (k + 1))).length ≤ k + 1 + 1 from by rw [HN.out, List.length_append]; simp; omega)
      go_roundg (L.length - (k + 1))
      case measure => omega
      case rel => exact ⟨k + 1, v', rfl, by go_num, by omega, rfl, Lib.hid (by rw [HN.out]; exact hown'), Lib.hid hk6, Lib.hid ⟨h5.1, HBL.out, h5.2⟩⟩
    · have hke : L.take k = L := List.take_of_length_le (by omega)
      rw [hke] at HO HB ⊢
      obtain ⟨n0, n1⟩ := box_at HB.out.1
      dsimp only at n0 n1
      have HAs := Lib.hid (outlet_AskL a b _ (keptL L) wr (by omega) (HO.out.sl Fld.cells_length) (fun _ => kept_short L))
      have HBX := Lib.hid HB.out.1
      have ta := S_toList a
      have tb := S_toList b
      clear hke HB hal hal' hl2 hgm wk
      by_cases hE : askE a b (keptL L) = 0
      case neg =>
        have hs0 := askE_no hE
        rw [hs0] at HAs
        unfold fin at HAs
        obtain ⟨q5, q5'⟩ := int_ne hE
        clear hE hs0
        go_wp2_with fail
        refine HAs.out.mono ?_
        rintro e w2 ⟨rfl, k2⟩
        have K2 := Lib.hid (HK.out.trans k2)
        clear k2
        have tn := S_toList ([] : List UInt8)
        go_wp2_with fail
        go_ret
        exact ⟨rfl, K2.out⟩
      have hlen := (askE_read [] hE).2.1
      obtain ⟨f1, f2, f3⟩ := kept_n L
      have hnx := ask_next hE f1 f2 f3
      rw [hE] at HAs
      unfold fin at HAs
      obtain ⟨s, hs⟩ : ∃ s, askS a b (keptL L) = s := ⟨_, rfl⟩
      rw [hs] at HAs hnx hlen
      have hadd : inAdd in0 s = ({ in0 with inp := s }, 0) := by
        unfold inAdd
        rw [if_neg (by decide), if_neg (by show ¬ ((16384 : Int) - ((0 : Nat) : Int) < (s.length : Int)); omega)]
        rfl
      have hok1 := inAdd_ok in0_ok s
      rw [hadd] at hok1
      have HH := Lib.hid (And.intro hadd (And.intro hnx hok1))
      have HLn := Lib.hid hlen
      clear hE f1 f2 f3 hnx hs hadd hok1 hlen
      go_wp2_with fail
      refine HAs.out.mono ?_
      rintro e w2 ⟨rfl, k2⟩
      have K2 := Lib.hid (HK.out.trans k2)
      have O2 := Lib.hid (HO.out.keep0 k2)
      have B2 := Lib.hid (HBX.out.keep0 k2)
      have HN := Lib.hid (inlet_New w2.heap.size w2 (Nat.le_refl _))
      clear k2 HAs HO HBX HK n0 n1
      go_wp2_with fail
      refine HN.out.mono ?_
      rintro e w3 ⟨p, rfl, hp, hx, k3⟩
      have K3 := Lib.hid k3
      have HA := Lib.hid (inlet_Add s hx (by decide) (by have := HLn.out; omega))
      rw [HH.out.1] at HA
      clear hx k3 HN
      go_wp2_with fail
      refine HA.out.mono ?_
      rintro e w4 ⟨rfl, hx, k4⟩
      have K4 := Lib.hid (K3.out.above k4 (by intro y hh; have h9 : y = p := (by simpa using hh); omega))
      have hB4 : 0 < w2.heap.size := by have := K2.out.size; omega
      have HX := Lib.hid (inlet_Next hx (HM.out.keep (K2.out.trans K4.out) (by simp)) K4.out.size hB4 HH.out.2.2)
      rw [HH.out.2.1] at HX
      unfold NextOut at HX
      dsimp only at HX
      have P4 := Lib.hid hx
      clear hx k4 HA K3
      go_wp2_with fail
      refine HX.out.mono ?_
      rintro e w5 ⟨v5, X5, R5, rfl, hx, k5, n5, r5, ho, hgo⟩
      obtain ⟨sb, sd, rfl, _⟩ := ho.shape
      have K5 := K4.out.above k5 (fun y hh => (P4.out.lo y hh).1)
      have kA := (Keep.refl [] w5).alloc (.cells (reqC a b (.slice sb (keptL L).length sd) (closesM (keptL L) 1)).toArray 30)
      have bA := Blk.newA w5 (reqC a b (.slice sb (keptL L).length sd) (closesM (keptL L) 1)).toArray 30
      generalize hwA : w5.alloc (.cells (reqC a b (.slice sb (keptL L).length sd) (closesM (keptL L) 1)).toArray 30) = wA' at kA bA
      have P5 := Lib.hid (hx.keep0 kA)
      have KA' := Lib.hid (K5.trans kA)
      have BR := Lib.hid (show Blk wA' w5.heap.size 30 (reqC a b (.slice sb (keptL L).length sd) (closesM (keptL L) 1)) from bA)
      have OR := Lib.hid (ho.keep0 kA)
      have hnX := Lib.hid (show w5.heap.size ∉ X5 ∧ ∀ g, (Value.slice sb (keptL L).length sd).ownBlock = some g → g ∉ X5 from ⟨fun hh => by have := (hx.lo _ hh).2; omega, fun g hg => (hgo g hg).2⟩)
      have HX2 := Lib.hid (inlet_Next P5.out (HM.out.keep (K2.out.trans KA'.out) (by simp)) KA'.out.size hB4 in0_ok)
      rw [in0_next] at HX2
      unfold NextOut at HX2
      dsimp only at HX2
      have HO1 := Lib.hid (reqC_one a b (v := .slice sb (keptL L).length sd) (closesM (keptL L) 1) rfl)
      clear hx k5 n5 r5 ho hgo kA bA HX P4 K4 K5
      go_wp2_with (first
        | (with_reducible (show wpList _ _ _ ((⟨none, .store _ (.tmp 16) (.tmp 109), _, _, _, none⟩ : Oper) :: _) _ _)
           refine wpList_store_fresh rfl 30 (.tmp 16) (.tmp 109) rfl _ (reqC a b (.slice sb (keptL L).length sd) (closesM (keptL L) 1)) (by rfl) (by rfl) req_size (by rfl) HO1.out ?_
           rw [hwA]
           try simp only [Act.put])
        | fail)
      refine HX2.out.mono ?_
      rintro e w6 ⟨v6, X6, R6, rfl, hx, k6, n6, r6, ho, hgo⟩
      obtain ⟨se, sf, rfl, _⟩ := ho.shape
      have K6 := KA'.out.above k6 (fun y hh => (P5.out.lo y hh).1)
      have kB := (Keep.refl [] w6).alloc (.cells (reqC req0.m req0.t (.slice se req0.F.length sf) req0.cl).toArray 30)
      have b6 := k6.blk BR.out hnX.out.1
      have o6 := OR.out.keep k6 hnX.out.2
      generalize hwB : w6.alloc (.cells (reqC req0.m req0.t (.slice se req0.F.length sf) req0.cl).toArray 30) = wB' at kB
      have KB := Lib.hid (K6.trans kB)
      have b7 := kB.blk b6 (by simp)
      have o7 := (o6.keep0 kB).sl Fld.cells_length
      have r0 := b7.get (k := 0) (v := .string (S a)) rfl
      have r1 := b7.get (k := 1) (v := .string (S b)) rfl
      have r2 := b7.get (k := 2) (v := .slice sb (keptL L).length sd) rfl
      obtain ⟨n0, n1⟩ := box_at (B2.out.keep0 KB.out)
      dsimp only at n0 n1
      have HS := Lib.hid (ref_Same _ _ _ _ wB' o7 ((O2.out.keep0 KB.out).sl Fld.cells_length))
      have dT : decide (keptL L = keptL L) = true := by simp
      rw [dT] at HS
      have HO2 := Lib.hid (reqC_one req0.m req0.t (v := .slice se req0.F.length sf) req0.cl rfl)
      clear hx k6 n6 r6 ho hgo kB HX2 b6 o6 b7 o7 dT hwA
      go_wp2_with (first
        | (with_reducible (show wpList _ _ _ ((⟨none, .store _ (.tmp 18) (.tmp 114), _, _, _, none⟩ : Oper) :: _) _ _)
           refine wpList_store_fresh rfl 30 (.tmp 18) (.tmp 114) rfl _ (reqC req0.m req0.t (.slice se req0.F.length sf) req0.cl) (by rfl) (by rfl) req_size (by rfl) HO2.out ?_
           rw [hwB]
           try simp only [Act.put])
        | fail)
      refine HS.out.mono ?_
      rintro e w7 ⟨rfl, k7⟩
      have K7 := Lib.hid ((K2.out.trans KB.out).trans k7)
      clear k7
      go_wp2_with fail
      go_ret
      exact ⟨rfl, K7.out⟩
end Go.Proofs.YtpimfoohpfkciaaGreatDoor
